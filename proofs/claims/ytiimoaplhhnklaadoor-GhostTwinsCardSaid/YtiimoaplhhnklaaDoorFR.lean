/- The document's Clone: every list lies in memory that the call has made. -/
import Derived.Test.YtiimoaplhhnklaaDoorFH
import Derived.Test.YtiimoaplhhnklaaDoorRowT
import Derived.Maps.AppendAt
import Derived.Laws.OwnMore
namespace Go.Proofs.YtiimoaplhhnklaaDoor
open Go.RowKit
set_option maxHeartbeats 8000000
set_option maxRecDepth 100000
set_option linter.unusedSimpArgs false
set_option linter.unusedVariables false
def ecL (e : Ent) : List Value := [.string e.key, .int .i64 e.ctr, .int .i64 e.node, .string e.val, .bool e.dead]
def pcL (q : Prt × Value) : List Value := [.int .i64 q.1.kind, .string q.1.lo, .string q.1.hi, .bool q.1.op, .int .i64 q.1.cnt, .int .u64 q.1.s0, .int .u64 q.1.s1, q.2]
/-- Entries in a row of one's own. -/
def OwnE (B : Nat) (w : World) (v : Value) (es : List Ent) : Prop := w.ownsRow B 55 5 v es.length (es.flatMap ecL) ∧ ∃ S c, v = .slice (some ⟨S, 0, none⟩) es.length c
theorem flat_getI {α : Type} (f : α → List Value) (k : Nat) (hk : 0 < k) (hf : ∀ a, (f a).length = k) (l : List α) (j : Nat) (hj : j < l.length * k) :
    ∃ h : j / k < l.length, (l.flatMap f)[j]? = (f l[j / k])[j % k]? := by
  have h : j / k < l.length := (Nat.div_lt_iff_lt_mul hk).2 hj
  refine ⟨h, ?_⟩
  have := flat_get f k hk hf l (j / k) h (j % k) (Nat.mod_lt _ hk)
  rwa [show j / k * k + j % k = j from by rw [Nat.mul_comm]; exact Nat.div_add_mod j k] at this
theorem flat_len {α : Type} (f : α → List Value) (k : Nat) (hf : ∀ a, (f a).length = k) : ∀ l : List α, (l.flatMap f).length = l.length * k
  | [] => by simp
  | a :: l => by rw [List.flatMap_cons, List.length_append, hf, flat_len f k hf l, List.length_cons, Nat.add_mul]; omega
theorem own_mono {w : World} {B B' : Nat} {e : TypeId} {size n : Nat} {v : Value} {xs : List Value} (h : w.ownsRow B e size v n xs) (hB : B' ≤ B) : w.ownsRow B' e size v n xs := by
  refine ⟨h.1, ?_⟩
  rcases h.2 with h | ⟨g, cap, cur, h1, h2, h3⟩
  · exact .inl h
  · exact .inr ⟨g, cap, cur, h1, by omega, h3⟩
theorem grown_set (w : World) (R j : Nat) (u : Value) : w.grownBy (w.setCell ⟨R, j, none⟩ u) (some R) :=
  ⟨rfl, rfl, rfl, by show _ ≤ (w.heap.modify R _).size; rw [Array.size_modify]; exact Nat.le_refl _, fun k hk h => by
    show (w.heap.modify R _)[k]? = _
    have hne : R ≠ k := fun e => h (by rw [e])
    rw [Array.getElem?_eq_getElem (by rw [Array.size_modify]; exact hk), Array.getElem_modify_of_ne hne, Array.getElem?_eq_getElem hk]⟩
theorem own_set {w : World} {B R j : Nat} {u : Value} {e : TypeId} {size n : Nat} {v : Value} {xs : List Value} (h : w.ownsRow B e size v n xs) (hR : R < B) : (w.setCell ⟨R, j, none⟩ u).ownsRow B e size v n xs :=
  h.kept (grown_set w R j u) (by
    cases hv : v.ownBlock with
    | none => left; rfl
    | some k => right; intro e; have := (h.lt k hv).1; cases e; omega)
theorem OwnE.ext {B : Nat} {w w' : World} {v : Value} {es : List Ent} (h : OwnE B w v es) (hx : Ext w w') : OwnE B w' v es := ⟨own_ext h.1 hx, h.2⟩
theorem OwnE.mono {B B' : Nat} {w : World} {v : Value} {es : List Ent} (h : OwnE B w v es) (hB : B' ≤ B) : OwnE B' w v es := ⟨own_mono h.1 hB, h.2⟩
theorem OwnE.set {B R j : Nat} {w : World} {u v : Value} {es : List Ent} (h : OwnE B w v es) (hR : R < B) : OwnE B (w.setCell ⟨R, j, none⟩ u) v es := ⟨own_set h.1 hR, h.2⟩
theorem ent_info : ∃ i z, Tryd.prog.info? 55 = some i ∧ i.size = 5 ∧ i.bytes ≤ 128 ∧ i.zero = some z ∧ z.cells.size = 5 := ⟨_, _, rfl, rfl, by decide, rfl, rfl⟩
theorem one_ec (es : List Ent) : ∀ u ∈ es.flatMap ecL, u.oneCell' = true := by
  intro u hu
  obtain ⟨e, _, he⟩ := List.mem_flatMap.1 hu
  simp [ecL] at he
  rcases he with rfl | rfl | rfl | rfl | rfl <;> rfl
theorem one_pc {qs : List (Prt × Value)} (h : ∀ q ∈ qs, q.2.oneCell' = true) : ∀ u ∈ qs.flatMap pcL, u.oneCell' = true := by
  intro u hu
  obtain ⟨e, hq, he⟩ := List.mem_flatMap.1 hu
  simp [pcL] at he
  rcases he with rfl | rfl | rfl | rfl | rfl | rfl | rfl | rfl <;> first | rfl | exact h _ hq
theorem add_flat {b o j : Nat} : (⟨b, o, none⟩ : Addr).add j = ⟨b, o + j, none⟩ := by
  unfold Addr.add
  split
  · rename_i h; subst h; rfl
  · rfl

/-- Entries from memory, behind those of a row of one's own. -/
theorem append_entsL {w : World} {B : Nat} {v : Value} {es0 es : List Ent} (hown : OwnE B w v es0) {b o c : Nat} (hE : ∀ i, (h : i < es.length) → EntAt w b (o + i * 5) es[i]) (hn : es0.length + es.length ≤ 1073741824) (hB : B ≤ w.heap.size) :
    ∃ v' w', (Builtin.append_ #[22, 22] 22 #[v, .slice (some ⟨b, o, none⟩) es.length c]).run Tryd.prog w = .ok v' w' ∧ OwnE B w' v' (es0 ++ es) ∧ w.grownBy w' v.ownBlock ∧ (v'.ownBlock = v.ownBlock ∨ v'.ownBlock = some w.heap.size) := by
  obtain ⟨i, z, hinf, hs, hby, hz, hc⟩ := ent_info
  obtain ⟨v', w', h1, h2, h3, h4, h5⟩ := run_append_own_at (P := Tryd.prog) w B 22 22 55 i z 5 i.bytes Tryd.underlying22 hinf hz hs rfl hc (by omega) v es0.length (es0.flatMap ecL) hown.1 ⟨b, o, none⟩ es.length c (es.flatMap ecL) (flat_len ecL 5 (fun _ => rfl) es)
    (fun j u hj => by
      have hlt : j < es.length * 5 := by
        have := (List.getElem?_eq_some_iff.1 hj).1
        rwa [flat_len ecL 5 (fun _ => rfl)] at this
      obtain ⟨h, e⟩ := flat_getI ecL 5 (by omega) (fun _ => rfl) es j hlt
      rw [e] at hj
      have hA := hE (j / 5) h
      rw [add_flat, show o + j = o + j / 5 * 5 + j % 5 by omega]
      have hr : j % 5 < 5 := Nat.mod_lt _ (by omega)
      generalize es[j / 5] = x at *
      generalize o + j / 5 * 5 = q at *
      generalize j % 5 = r at *
      match r, hr, hj with
      | 0, _, hj => simp [ecL] at hj; subst hj; exact hA.c0
      | 1, _, hj => simp [ecL] at hj; subst hj; exact hA.c1
      | 2, _, hj => simp [ecL] at hj; subst hj; exact hA.c2
      | 3, _, hj => simp [ecL] at hj; subst hj; exact hA.c3
      | 4, _, hj => simp [ecL] at hj; subst hj; exact hA.c4)
    (one_ec es) (by unfold maxLen; omega) (Nat.le_trans (Nat.mul_le_mul hn hby) (by decide)) hB
  refine ⟨v', w', h1, ⟨by rw [List.length_append, List.flatMap_append]; exact h2, ?_⟩, h3, h5⟩
  obtain ⟨S, c0, rfl⟩ := hown.2
  rcases h2.2 with ⟨rfl, -⟩ | ⟨g, cap, cur, rfl, -⟩
  · exact absurd (h4.1 rfl).1 (by simp)
  · exact ⟨g, cap, by rw [List.length_append]⟩
theorem append_entsN (w : World) (h : Nat) (a : Option Addr) (c : Nat) :
    (Builtin.append_ #[22, 22] 22 #[.slice (some ⟨h, 0, none⟩) 0 0, .slice a 0 c]).run Tryd.prog w = .ok (.slice (some ⟨h, 0, none⟩) 0 0) w := by
  rcases a with _ | a
  · go_simp
  · go_simp
attribute [-go_sem] Builtin.append_
attribute [local go_sem ↓] append_entsN

/-- Entries from memory, copied behind an empty row. -/
theorem append_copy {w : World} {E : Nat} {sv : Value} {es : List Ent} (hO : w.ownsRow E 55 5 (.slice (some ⟨E, 0, none⟩) 0 0) 0 []) (hs : EntSl w sv es) (hn : es.length ≤ 536870912) (hB : E ≤ w.heap.size) :
    ∃ v' w', (Builtin.append_ #[22, 22] 22 #[.slice (some ⟨E, 0, none⟩) 0 0, sv]).run Tryd.prog w = .ok v' w' ∧ OwnE E w' v' es ∧ w.grownBy w' (some E) := by
  obtain ⟨a, c, rfl, -, -, h⟩ := hs
  by_cases hp : 0 < es.length
  · obtain ⟨b, o, rfl, hE⟩ := h hp
    obtain ⟨v', w', h1, h2, h3, -⟩ := append_entsL (es0 := []) (B := E) (c := c) ⟨hO, _, _, rfl⟩ hE (by simp; omega) hB
    exact ⟨v', w', h1, h2, h3⟩
  · obtain rfl : es = [] := List.length_eq_zero_iff.1 (by omega)
    exact ⟨_, w, append_entsN w E a c, ⟨hO, _, _, rfl⟩, ⟨rfl, rfl, rfl, Nat.le_refl _, fun _ _ _ => rfl⟩⟩

theorem map_fst_snoc {l : List Prt} {qs : List (Prt × Value)} {k : Nat} (h : qs.map (·.1) = l.take k) (hk : k < l.length) (ev : Value) : (qs ++ [(l[k], ev)]).map (·.1) = l.take (k + 1) := by
  rw [List.map_append, h, List.take_succ_eq_append_getElem hk]; rfl

end Go.Proofs.YtiimoaplhhnklaaDoor
