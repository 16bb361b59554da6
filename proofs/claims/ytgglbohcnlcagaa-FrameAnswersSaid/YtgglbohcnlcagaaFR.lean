/- The document's Clone: every list lies in memory that the call has made. -/
import Derived.Test.YtgglbohcnlcagaaFH
import Derived.Test.YtgglbohcnlcagaaRowT
import Derived.Maps.AppendAt
import Derived.Laws.OwnMore
namespace Go.Proofs.Ytgglbohcnlcagaa
open Go.RowKit
set_option maxHeartbeats 8000000
set_option maxRecDepth 100000
set_option linter.unusedSimpArgs false
set_option linter.unusedVariables false
theorem en_rfClone : Enters Try.prog 77 := ⟨_, Try.func77, by kernel_rfl, rfl⟩

def ecL (e : Ent) : List Value := [.string e.key, .int .i64 e.ctr, .int .i64 e.node, .string e.val, .bool e.dead]
def pcL (q : Prt × Value) : List Value := [.int .i64 q.1.kind, .string q.1.lo, .string q.1.hi, .bool q.1.op, .int .i64 q.1.cnt, .int .u64 q.1.s0, .int .u64 q.1.s1, q.2]
/-- Entries in a row of one's own. -/
def OwnE (B : Nat) (w : World) (v : Value) (es : List Ent) : Prop := w.ownsRow B 45 5 v es.length (es.flatMap ecL) ∧ ∃ S c, v = .slice (some ⟨S, 0, none⟩) es.length c
/-- Parts in a row of one's own, each one's entries in another. -/
structure OwnP (B : Nat) (w : World) (v : Value) (qs : List (Prt × Value)) : Prop where
  row : w.ownsRow B 41 8 v qs.length (qs.flatMap pcL)
  nn : ∃ S c, v = .slice (some ⟨S, 0, none⟩) qs.length c
  ents : ∀ q ∈ qs, OwnE B w q.2 q.1.ents
  apart : qs.Pairwise (fun a b => a.2.ownBlock ≠ b.2.ownBlock)

theorem flat_getI {α : Type} (f : α → List Value) (k : Nat) (hk : 0 < k) (hf : ∀ a, (f a).length = k) (l : List α) (j : Nat) (hj : j < l.length * k) :
    ∃ h : j / k < l.length, (l.flatMap f)[j]? = (f l[j / k])[j % k]? := by
  have h : j / k < l.length := (Nat.div_lt_iff_lt_mul hk).2 hj
  refine ⟨h, ?_⟩
  have := flat_get f k hk hf l (j / k) h (j % k) (Nat.mod_lt _ hk)
  rwa [show j / k * k + j % k = j from by rw [Nat.mul_comm]; exact Nat.div_add_mod j k] at this
theorem flat_len {α : Type} (f : α → List Value) (k : Nat) (hf : ∀ a, (f a).length = k) : ∀ l : List α, (l.flatMap f).length = l.length * k
  | [] => by simp
  | a :: l => by rw [List.flatMap_cons, List.length_append, hf, flat_len f k hf l, List.length_cons, Nat.add_mul]; omega
theorem own_mono {w : World} {B B' : Nat} {e : TypeId} {size n : Nat} {v : Value} {xs : List Value} (h : w.ownsRow B e size v n xs) (hB : B' ≤ B) : w.ownsRow B' e size v n xs := by
  refine ⟨h.1, ?_⟩
  rcases h.2 with h | ⟨g, cap, cur, h1, h2, h3⟩
  · exact .inl h
  · exact .inr ⟨g, cap, cur, h1, by omega, h3⟩
theorem grown_set (w : World) (R j : Nat) (u : Value) : w.grownBy (w.setCell ⟨R, j, none⟩ u) (some R) :=
  ⟨rfl, rfl, rfl, by show _ ≤ (w.heap.modify R _).size; rw [Array.size_modify]; exact Nat.le_refl _, fun k hk h => by
    show (w.heap.modify R _)[k]? = _
    have hne : R ≠ k := fun e => h (by rw [e])
    rw [Array.getElem?_eq_getElem (by rw [Array.size_modify]; exact hk), Array.getElem_modify_of_ne hne, Array.getElem?_eq_getElem hk]⟩
theorem own_set {w : World} {B R j : Nat} {u : Value} {e : TypeId} {size n : Nat} {v : Value} {xs : List Value} (h : w.ownsRow B e size v n xs) (hR : R < B) : (w.setCell ⟨R, j, none⟩ u).ownsRow B e size v n xs :=
  h.kept (grown_set w R j u) (by
    cases hv : v.ownBlock with
    | none => left; rfl
    | some k => right; intro e; have := (h.lt k hv).1; cases e; omega)
theorem OwnE.ext {B : Nat} {w w' : World} {v : Value} {es : List Ent} (h : OwnE B w v es) (hx : Ext w w') : OwnE B w' v es := ⟨own_ext h.1 hx, h.2⟩
theorem OwnE.mono {B B' : Nat} {w : World} {v : Value} {es : List Ent} (h : OwnE B w v es) (hB : B' ≤ B) : OwnE B' w v es := ⟨own_mono h.1 hB, h.2⟩
theorem OwnE.set {B R j : Nat} {w : World} {u v : Value} {es : List Ent} (h : OwnE B w v es) (hR : R < B) : OwnE B (w.setCell ⟨R, j, none⟩ u) v es := ⟨own_set h.1 hR, h.2⟩
theorem OwnP.ext {B : Nat} {w w' : World} {v : Value} {qs : List (Prt × Value)} (h : OwnP B w v qs) (hx : Ext w w') : OwnP B w' v qs := ⟨own_ext h.row hx, h.nn, fun q hq => (h.ents q hq).ext hx, h.apart⟩
theorem OwnP.mono {B B' : Nat} {w : World} {v : Value} {qs : List (Prt × Value)} (h : OwnP B w v qs) (hB : B' ≤ B) : OwnP B' w v qs := ⟨own_mono h.row hB, h.nn, fun q hq => (h.ents q hq).mono hB, h.apart⟩
theorem OwnP.set {B R j : Nat} {w : World} {u v : Value} {qs : List (Prt × Value)} (h : OwnP B w v qs) (hR : R < B) : OwnP B (w.setCell ⟨R, j, none⟩ u) v qs := ⟨own_set h.row hR, h.nn, fun q hq => (h.ents q hq).set hR, h.apart⟩

theorem ent_info : ∃ i z, Try.prog.info? 45 = some i ∧ i.size = 5 ∧ i.bytes ≤ 128 ∧ i.zero = some z ∧ z.cells.size = 5 := ⟨_, _, rfl, rfl, by decide, rfl, rfl⟩
theorem prt_info : ∃ i z, Try.prog.info? 41 = some i ∧ i.size = 8 ∧ i.bytes ≤ 128 ∧ i.zero = some z ∧ z.cells.size = 8 := ⟨_, _, rfl, rfl, by decide, rfl, rfl⟩
theorem one_ec (es : List Ent) : ∀ u ∈ es.flatMap ecL, u.oneCell' = true := by
  intro u hu
  obtain ⟨e, _, he⟩ := List.mem_flatMap.1 hu
  simp [ecL] at he
  rcases he with rfl | rfl | rfl | rfl | rfl <;> rfl
theorem one_pc {qs : List (Prt × Value)} (h : ∀ q ∈ qs, q.2.oneCell' = true) : ∀ u ∈ qs.flatMap pcL, u.oneCell' = true := by
  intro u hu
  obtain ⟨e, hq, he⟩ := List.mem_flatMap.1 hu
  simp [pcL] at he
  rcases he with rfl | rfl | rfl | rfl | rfl | rfl | rfl | rfl <;> first | rfl | exact h _ hq
theorem add_flat {b o j : Nat} : (⟨b, o, none⟩ : Addr).add j = ⟨b, o + j, none⟩ := by
  unfold Addr.add
  split
  · rename_i h; subst h; rfl
  · rfl

/-- Entries from memory, behind those of a row of one's own. -/
theorem append_entsL {w : World} {B : Nat} {v : Value} {es0 es : List Ent} (hown : OwnE B w v es0) {b o c : Nat} (hE : ∀ i, (h : i < es.length) → EntAt w b (o + i * 5) es[i]) (hn : es0.length + es.length ≤ 1073741824) (hB : B ≤ w.heap.size) :
    ∃ v' w', (Builtin.append_ #[39, 39] 39 #[v, .slice (some ⟨b, o, none⟩) es.length c]).run Try.prog w = .ok v' w' ∧ OwnE B w' v' (es0 ++ es) ∧ w.grownBy w' v.ownBlock ∧ (v'.ownBlock = v.ownBlock ∨ v'.ownBlock = some w.heap.size) := by
  obtain ⟨i, z, hinf, hs, hby, hz, hc⟩ := ent_info
  obtain ⟨v', w', h1, h2, h3, h4, h5⟩ := run_append_own_at (P := Try.prog) w B 39 39 45 i z 5 i.bytes Try.underlying39 hinf hz hs rfl hc (by omega) v es0.length (es0.flatMap ecL) hown.1 ⟨b, o, none⟩ es.length c (es.flatMap ecL) (flat_len ecL 5 (fun _ => rfl) es)
    (fun j u hj => by
      have hlt : j < es.length * 5 := by
        have := (List.getElem?_eq_some_iff.1 hj).1
        rwa [flat_len ecL 5 (fun _ => rfl)] at this
      obtain ⟨h, e⟩ := flat_getI ecL 5 (by omega) (fun _ => rfl) es j hlt
      rw [e] at hj
      have hA := hE (j / 5) h
      rw [add_flat, show o + j = o + j / 5 * 5 + j % 5 by omega]
      have hr : j % 5 < 5 := Nat.mod_lt _ (by omega)
      generalize es[j / 5] = x at *
      generalize o + j / 5 * 5 = q at *
      generalize j % 5 = r at *
      match r, hr, hj with
      | 0, _, hj => simp [ecL] at hj; subst hj; exact hA.c0
      | 1, _, hj => simp [ecL] at hj; subst hj; exact hA.c1
      | 2, _, hj => simp [ecL] at hj; subst hj; exact hA.c2
      | 3, _, hj => simp [ecL] at hj; subst hj; exact hA.c3
      | 4, _, hj => simp [ecL] at hj; subst hj; exact hA.c4)
    (one_ec es) (by unfold maxLen; omega) (Nat.le_trans (Nat.mul_le_mul hn hby) (by decide)) hB
  refine ⟨v', w', h1, ⟨by rw [List.length_append, List.flatMap_append]; exact h2, ?_⟩, h3, h5⟩
  obtain ⟨S, c0, rfl⟩ := hown.2
  rcases h2.2 with ⟨rfl, -⟩ | ⟨g, cap, cur, rfl, -⟩
  · exact absurd (h4.1 rfl).1 (by simp)
  · exact ⟨g, cap, by rw [List.length_append]⟩
/-- One part, new, behind those of a row of one's own. -/
theorem append_partL {w : World} {B : Nat} {v : Value} {qs : List (Prt × Value)} (hown : w.ownsRow B 41 8 v qs.length (qs.flatMap pcL)) (hnn : ∃ S c, v = .slice (some ⟨S, 0, none⟩) qs.length c) {b c : Nat} {ps : List (Prt × Value)} (hp : 0 < ps.length)
    (hone : ∀ q ∈ ps, q.2.oneCell' = true) (hc : ∀ j u, (ps.flatMap pcL)[j]? = some u → w.cell? ⟨b, j, none⟩ = some u) (hn : qs.length + ps.length ≤ 1073741824) (hB : B ≤ w.heap.size) :
    ∃ v' w', (Builtin.append_ #[24, 24] 24 #[v, .slice (some ⟨b, 0, none⟩) ps.length c]).run Try.prog w = .ok v' w' ∧ w'.ownsRow B 41 8 v' (qs ++ ps).length ((qs ++ ps).flatMap pcL) ∧ (∃ S c, v' = .slice (some ⟨S, 0, none⟩) (qs ++ ps).length c) ∧ w.grownBy w' v.ownBlock := by
  obtain ⟨i, z, hinf, hs, hby, hz, hcc⟩ := prt_info
  obtain ⟨v', w', h1, h2, h3, h4, h5⟩ := run_append_own_at (P := Try.prog) w B 24 24 41 i z 8 i.bytes Try.underlying24 hinf hz hs rfl hcc (by omega) v qs.length (qs.flatMap pcL) hown ⟨b, 0, none⟩ ps.length c (ps.flatMap pcL) (flat_len pcL 8 (fun _ => rfl) ps)
    (fun j u hj => by rw [add_flat, Nat.zero_add]; exact hc j u hj)
    (one_pc hone) (by unfold maxLen; omega) (Nat.le_trans (Nat.mul_le_mul hn hby) (by decide)) hB
  refine ⟨v', w', h1, by rw [List.length_append, List.flatMap_append]; exact h2, ?_, h3⟩
  obtain ⟨S, c0, rfl⟩ := hnn
  rcases h2.2 with ⟨rfl, -⟩ | ⟨g, cap, cur, rfl, -⟩
  · exact absurd (h4.1 rfl).1 (by simp)
  · exact ⟨g, cap, by rw [List.length_append]⟩
theorem append_entsN (w : World) (h : Nat) (a : Option Addr) (c : Nat) :
    (Builtin.append_ #[39, 39] 39 #[.slice (some ⟨h, 0, none⟩) 0 0, .slice a 0 c]).run Try.prog w = .ok (.slice (some ⟨h, 0, none⟩) 0 0) w := by
  rcases a with _ | a
  · go_simp
  · go_simp
attribute [-go_sem] Builtin.append_
attribute [local go_sem ↓] append_entsN

/-- Entries from memory, copied behind an empty row. -/
theorem append_copy {w : World} {E : Nat} {sv : Value} {es : List Ent} (hO : w.ownsRow E 45 5 (.slice (some ⟨E, 0, none⟩) 0 0) 0 []) (hs : EntSl w sv es) (hn : es.length ≤ 536870912) (hB : E ≤ w.heap.size) :
    ∃ v' w', (Builtin.append_ #[39, 39] 39 #[.slice (some ⟨E, 0, none⟩) 0 0, sv]).run Try.prog w = .ok v' w' ∧ OwnE E w' v' es ∧ w.grownBy w' (some E) := by
  obtain ⟨a, c, rfl, -, -, h⟩ := hs
  by_cases hp : 0 < es.length
  · obtain ⟨b, o, rfl, hE⟩ := h hp
    obtain ⟨v', w', h1, h2, h3, -⟩ := append_entsL (es0 := []) (B := E) (c := c) ⟨hO, _, _, rfl⟩ hE (by simp; omega) hB
    exact ⟨v', w', h1, h2, h3⟩
  · obtain rfl : es = [] := List.length_eq_zero_iff.1 (by omega)
    exact ⟨_, w, append_entsN w E a c, ⟨hO, _, _, rfl⟩, ⟨rfl, rfl, rfl, Nat.le_refl _, fun _ _ _ => rfl⟩⟩

theorem map_fst_snoc {l : List Prt} {qs : List (Prt × Value)} {k : Nat} (h : qs.map (·.1) = l.take k) (hk : k < l.length) (ev : Value) : (qs ++ [(l[k], ev)]).map (·.1) = l.take (k + 1) := by
  rw [List.map_append, h, List.take_succ_eq_append_getElem hk]; rfl

/-- One more part. -/
theorem OwnP.snoc {B : Nat} {w w' : World} {v v' : Value} {qs : List (Prt × Value)} {q : Prt × Value} (h : OwnP B w v qs) (hE : OwnE B w q.2 q.1.ents) (hnew : ∀ a ∈ qs, a.2.ownBlock ≠ q.2.ownBlock)
    (hrow : w'.ownsRow B 41 8 v' (qs ++ [q]).length ((qs ++ [q]).flatMap pcL)) (hnn : ∃ S c, v' = .slice (some ⟨S, 0, none⟩) (qs ++ [q]).length c) (hg : w.grownBy w' v.ownBlock) : OwnP B w' v' (qs ++ [q]) := by
  have keep : ∀ u es, OwnE B w u es → OwnE B w' u es := fun u es hu => ⟨hu.1.kept hg (own_apart hu.1 h.row (by decide)), hu.2⟩
  refine ⟨hrow, hnn, fun a ha => ?_, ?_⟩
  · rcases List.mem_append.1 ha with ha | ha
    · exact keep _ _ (h.ents a ha)
    · rw [List.mem_singleton.1 ha]; exact keep _ _ hE
  · rw [List.pairwise_append]
    exact ⟨h.apart, by simp, fun a ha b hb => by rw [List.mem_singleton.1 hb]; exact hnew a ha⟩

theorem rfClone_any (f t o li nu tu : Int) (l : List Prt) (sv : Value) (w : World) (hs : PrtSl w sv l) (hm : l.length ≤ 536870912) (hme : ∀ p ∈ l, p.ents.length ≤ 536870912) :
    Calls Try.prog 77 #[.agg #[.int .i64 f, .int .i64 t, .int .i64 o, .int .i64 li, .int .i64 nu, .int .i64 tu, sv]] w
      fun e w' => ∃ pv qs, e = .returned (.agg #[.int .i64 f, .int .i64 t, .int .i64 o, .int .i64 li, .int .i64 nu, .int .i64 tu, pv]) ∧ qs.map (·.1) = l ∧ OwnP w.heap.size w' pv qs ∧ Ext w w' := by
  have HS := hid_mk hs
  have HME := hid_mk hme
  obtain ⟨a, c, rfl, hlc, hl63, -⟩ := hs
  clear hme
  go_enter Try.func77, Try.ntmps77
  go_wp2
  have HB : FrmAt ((w.alloc (.cells #[.int .i64 f, .int .i64 t, .int .i64 o, .int .i64 li, .int .i64 nu, .int .i64 tu, .slice a l.length c] 26)).alloc (.cells #[.int .i64 0, .int .i64 0, .int .i64 0, .int .i64 0, .int .i64 0, .int .i64 0, .slice none 0 0] 26)) w.heap.size f t o li nu tu (.slice a l.length c) := ⟨by go_simp, by go_simp, by go_simp, by go_simp, by go_simp, by go_simp, by go_simp, by go_simp, by go_simp, by go_simp, by go_simp, by go_simp, by go_simp, by go_simp⟩
  have HR : FrmAt ((w.alloc (.cells #[.int .i64 f, .int .i64 t, .int .i64 o, .int .i64 li, .int .i64 nu, .int .i64 tu, .slice a l.length c] 26)).alloc (.cells #[.int .i64 0, .int .i64 0, .int .i64 0, .int .i64 0, .int .i64 0, .int .i64 0, .slice none 0 0] 26)) (w.heap.size + 1) 0 0 0 0 0 0 (.slice none 0 0) := ⟨by go_simp, by go_simp, by go_simp, by go_simp, by go_simp, by go_simp, by go_simp, by go_simp, by go_simp, by go_simp, by go_simp, by go_simp, by go_simp, by go_simp⟩
  have hx0 : Ext w ((w.alloc (.cells #[.int .i64 f, .int .i64 t, .int .i64 o, .int .i64 li, .int .i64 nu, .int .i64 tu, .slice a l.length c] 26)).alloc (.cells #[.int .i64 0, .int .i64 0, .int .i64 0, .int .i64 0, .int .i64 0, .int .i64 0, .slice none 0 0] 26)) := by (repeat (first | exact Ext.refl _ | apply Ext.drew_left | apply Ext.drew | apply Ext.alloc))
  have hsz : ((w.alloc (.cells #[.int .i64 f, .int .i64 t, .int .i64 o, .int .i64 li, .int .i64 nu, .int .i64 tu, .slice a l.length c] 26)).alloc (.cells #[.int .i64 0, .int .i64 0, .int .i64 0, .int .i64 0, .int .i64 0, .int .i64 0, .slice none 0 0] 26)).heap.size = w.heap.size + 2 := by simp
  generalize ((w.alloc (.cells #[.int .i64 f, .int .i64 t, .int .i64 o, .int .i64 li, .int .i64 nu, .int .i64 tu, .slice a l.length c] 26)).alloc (.cells #[.int .i64 0, .int .i64 0, .int .i64 0, .int .i64 0, .int .i64 0, .int .i64 0, .slice none 0 0] 26)) = W0 at *
  have HB0 := hid_mk HB
  have HR0 := hid_mk HR
  have HX0 := hid_mk hx0
  have HS0 := hid_mk (HS.out.ext hx0)
  clear HB HR hx0
  go_loopw [3, 4] (fun pv i wr => ∃ (k : Nat) (qs : List (Prt × Value)), k ≤ l.length ∧ i = .int .i64 k ∧ qs.map (·.1) = l.take k ∧ OwnP W0.heap.size wr pv qs ∧ Ext W0 wr) (fun _ i _ => l.length - (intOf i).toNat)
  case atStart =>
    refine ⟨0, [], Nat.zero_le _, rfl, rfl, ⟨?_, ⟨_, _, rfl⟩, by simp, by simp⟩, by (repeat (first | exact Ext.refl _ | apply Ext.drew_left | apply Ext.drew | apply Ext.alloc))⟩
    have h := World.ownsRow_made (e := 41) (size := 8) W0 #[] 0 (Nat.le_refl _) (by decide) rfl
    show (W0.alloc (.cells #[] 41)).ownsRow W0.heap.size 41 8 (.slice (some ⟨w.heap.size + 2, 0, none⟩) 0 0) 0 []
    rw [← hsz]
    exact h
  case round =>
    obtain ⟨k, qs, hk, rfl, hq, hP, hx⟩ := hrel
    have HQ := hid_mk hq
    have HP := hid_mk hP
    have HX := hid_mk hx
    have HF := hid_mk (HB0.out.ext hx)
    have HQL := hid_mk (show qs.length = k by have := congrArg List.length hq; simpa [Nat.min_eq_left hk] using this)
    obtain ⟨P0, c0, rfl⟩ := hP.nn
    have c6 := HF.out.c6
    have hb := cell_lt c6
    clear hq hP hx
    by_cases hlt : k < l.length
    · obtain ⟨a9, c9, e9, -, -, hcl0⟩ := HS0.out
      cases e9
      obtain ⟨pb, po, rfl, hcl⟩ := hcl0 (by omega)
      obtain ⟨pv, hA⟩ := hcl k hlt
      clear hcl hcl0
      replace hA := hA.ext HX.out
      have HSN := hid_mk (fun ev => map_fst_snoc HQ.out hlt ev)
      have HMK := hid_mk (HME.out l[k] (List.getElem_mem hlt))
      generalize l[k] = p at *
      obtain ⟨kind, lo, hi, op, cnt, s0, s1, ents⟩ := p
      have HE := hid_mk hA.es
      obtain ⟨a0, a1, a2, a3, a4, a5, a6, a7, -⟩ := hA
      obtain ⟨ea, ec, rfl, -, -, hE0⟩ := HE.out
      clear hE0
      dsimp only at a0 a1 a2 a3 a4 a5 a6 a7 HE HMK HSN
      have hpl := cell_lt a0
      have hk1 : (k : Int) < (l.length : Int) := by omega
      obtain ⟨Wx, hWx⟩ : ∃ Wx, Wx = (wr.alloc (.cells #[.int .i64 kind, .string lo, .string hi, .bool op, .int .i64 cnt, .int .u64 s0, .int .u64 s1, .slice ea ents.length ec] 41)).alloc (.cells #[] 45) := ⟨_, rfl⟩
      have hx2 : Ext wr Wx := by rw [hWx]; (repeat (first | exact Ext.refl _ | apply Ext.drew_left | apply Ext.drew | apply Ext.alloc))
      have hsz2 : Wx.heap.size = wr.heap.size + 2 := by rw [hWx]; simp
      have hO : Wx.ownsRow (wr.heap.size + 1) 45 5 (.slice (some ⟨wr.heap.size + 1, 0, none⟩) 0 0) 0 [] := by
        have h := World.ownsRow_made (base := wr.heap.size + 1) (e := 45) (size := 5) (wr.alloc (.cells #[.int .i64 kind, .string lo, .string hi, .bool op, .int .i64 cnt, .int .u64 s0, .int .u64 s1, .slice ea ents.length ec] 41)) #[] 0 (by simp) (by decide) rfl
        rw [World.size_alloc] at h
        rw [hWx]
        exact h
      obtain ⟨v', w3, hrun, hE3, hg3⟩ := append_copy hO (HE.out.ext hx2) HMK.out (by omega)
      have hx3 : Ext wr w3 := Ext.of (hx2.below.grown hg3 hx2.below.size (fun k hk => by cases hk; omega))
      have hpc : ∀ j, w3.cell? ⟨wr.heap.size, j, none⟩ = Wx.cell? ⟨wr.heap.size, j, none⟩ := fun j => World.cell?_of_block (hg3.block wr.heap.size (by omega) (by simp))
      have hpf : ∀ j, w3.frozen? ⟨wr.heap.size, j, none⟩ = Wx.frozen? ⟨wr.heap.size, j, none⟩ := fun j => World.frozen?_of_block (hg3.block wr.heap.size (by omega) (by simp))
      have hs3 := hg3.size
      rw [hWx] at hrun hpc hpf
      have q0 : w3.cell? ⟨wr.heap.size, 0, none⟩ = some (.int .i64 kind) := (hpc 0).trans (by go_simp)
      have q1 : w3.cell? ⟨wr.heap.size, 1, none⟩ = some (.string lo) := (hpc 1).trans (by go_simp)
      have q2 : w3.cell? ⟨wr.heap.size, 2, none⟩ = some (.string hi) := (hpc 2).trans (by go_simp)
      have q3 : w3.cell? ⟨wr.heap.size, 3, none⟩ = some (.bool op) := (hpc 3).trans (by go_simp)
      have q4 : w3.cell? ⟨wr.heap.size, 4, none⟩ = some (.int .i64 cnt) := (hpc 4).trans (by go_simp)
      have q5 : w3.cell? ⟨wr.heap.size, 5, none⟩ = some (.int .u64 s0) := (hpc 5).trans (by go_simp)
      have q6 : w3.cell? ⟨wr.heap.size, 6, none⟩ = some (.int .u64 s1) := (hpc 6).trans (by go_simp)
      have q7 : w3.cell? ⟨wr.heap.size, 7, none⟩ = some (.slice ea ents.length ec) := (hpc 7).trans (by go_simp)
      have z7 : w3.frozen? ⟨wr.heap.size, 7, none⟩ = false := (hpf 7).trans (by go_simp)
      have hl3 := cell_lt q0
      obtain ⟨S3, c3, rfl⟩ := hE3.2
      -- the part's own box, with its new entries; then the list of parts grows
      have hx4 : Ext wr ((w3.setCell ⟨wr.heap.size, 7, none⟩ (.slice (some ⟨S3, 0, none⟩) ents.length c3)).alloc (.cells #[.int .i64 kind, .string lo, .string hi, .bool op, .int .i64 cnt, .int .u64 s0, .int .u64 s1, .slice (some ⟨S3, 0, none⟩) ents.length c3] 41)) := (Ext.setD hx3 (Nat.le_refl _)).alloc _
      have hE4 : OwnE (wr.heap.size + 1) ((w3.setCell ⟨wr.heap.size, 7, none⟩ (.slice (some ⟨S3, 0, none⟩) ents.length c3)).alloc (.cells #[.int .i64 kind, .string lo, .string hi, .bool op, .int .i64 cnt, .int .u64 s0, .int .u64 s1, .slice (some ⟨S3, 0, none⟩) ents.length c3] 41)) (.slice (some ⟨S3, 0, none⟩) ents.length c3) ents :=
        (hE3.set (Nat.lt_succ_self _)).ext (by (repeat (first | exact Ext.refl _ | apply Ext.drew_left | apply Ext.drew | apply Ext.alloc)))
      have hsz4 : (w3.setCell ⟨wr.heap.size, 7, none⟩ (.slice (some ⟨S3, 0, none⟩) ents.length c3)).heap.size = w3.heap.size := by simp
      have hP4 := HP.out.ext hx4
      obtain ⟨pv', w6, hrun6, hr6, hn6, hg6⟩ := append_partL hP4.row hP4.nn (b := w3.heap.size) (c := 1) (ps := [(⟨kind, lo, hi, op, cnt, s0, s1, ents⟩, .slice (some ⟨S3, 0, none⟩) ents.length c3)]) (by simp)
        (by intro q hq; rw [List.mem_singleton.1 hq]; rfl)
        (by
          intro j u hj
          match j, hj with
          | 0, hj => simp [pcL] at hj; subst hj; go_simp
          | 1, hj => simp [pcL] at hj; subst hj; go_simp
          | 2, hj => simp [pcL] at hj; subst hj; go_simp
          | 3, hj => simp [pcL] at hj; subst hj; go_simp
          | 4, hj => simp [pcL] at hj; subst hj; go_simp
          | 5, hj => simp [pcL] at hj; subst hj; go_simp
          | 6, hj => simp [pcL] at hj; subst hj; go_simp
          | 7, hj => simp [pcL] at hj; subst hj; go_simp)
        (by have := HQL.out; simp; omega) (by have := HX.out.below.size; have := hx4.below.size; omega)
      have HP6 := hid_mk (OwnP.snoc hP4 (q := (⟨kind, lo, hi, op, cnt, s0, s1, ents⟩, .slice (some ⟨S3, 0, none⟩) ents.length c3)) (hE4.mono (by have := HX.out.below.size; omega)) (fun q hq => by
        obtain ⟨hq1, Sq, cq, hq2⟩ := HP.out.ents q hq
        have h1 := (hq1.lt Sq (by rw [hq2]; rfl)).2
        have h2 := (hE4.1.lt S3 rfl).1
        rw [hq2]
        simp only [Value.ownBlock, ne_eq, Option.some.injEq]
        omega) hr6 hn6 hg6)
      have HX6 := hid_mk (show Ext W0 w6 from Ext.of ((Ext.trans _ _ _ HX.out hx4).below.grown hg6 (Ext.trans _ _ _ HX.out hx4).below.size (fun k hk => (hP4.row.lt k hk).1)))
      obtain ⟨S6, c6', rfl⟩ := hn6
      simp only [List.length_cons, List.length_nil, Nat.zero_add] at hrun6
      clear hP4 hE4 hx4 hr6 hg6 hE3 hO hx2 hx3 hg3 hpc hpf hWx
      go_wp2_with fail
      go_roundw
      case rel =>
        have h6 := HP6.out
        rw [List.length_append] at h6
        exact ⟨k + 1, _, by omega, by go_num, HSN.out _, h6, HX6.out⟩
      case measure => simp [intOf]; omega
    · have e : k = l.length := by omega
      subst e
      obtain ⟨b0, b1, b2, b3, b4, b5, b6, -, -, -, -, -, -, p6⟩ := HF.out
      obtain ⟨r0, r1, r2, r3, r4, r5, r6, z0, z1, z2, z3, z4, z5, z6⟩ := HR0.out.ext HX.out
      have hbr := cell_lt r0
      go_wp2
      refine bodyPost_ret (v := .agg #[.int .i64 f, .int .i64 t, .int .i64 o, .int .i64 li, .int .i64 nu, .int .i64 tu, .slice (some ⟨P0, 0, none⟩) qs.length c0]) (by unfold results; rw [Try.results77]; go_simp) rfl ⟨_, qs, rfl, by rw [HQ.out, List.take_length], ?_, ?_⟩
      · have h := HP.out
        have h1 : w.heap.size < W0.heap.size := by omega
        have h2 : w.heap.size + 1 < W0.heap.size := by omega
        exact (((((((((h.set h1).set h2).set h2).set h2).set h2).set h2).set h2).set h2)).mono (by omega)
      · iterate 8 (with_reducible refine Ext.setD ?_ (by omega))
        exact Ext.trans _ _ _ HX0.out HX.out
end Go.Proofs.Ytgglbohcnlcagaa
