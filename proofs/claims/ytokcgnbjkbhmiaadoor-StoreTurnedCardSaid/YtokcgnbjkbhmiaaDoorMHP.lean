/- Ghosts: rows of entries that a call has made for itself. The document's ghosts: New, Written, Held, Wrote. The document's ghosts: Wrote. -/
import Derived.Test.YtokcgnbjkbhmiaaDoorMHE
import Derived.Test.YtokcgnbjkbhmiaaDoorRowT
import Derived.Maps.AppendAt
namespace Go.Proofs.YtokcgnbjkbhmiaaDoor
open Go.RowKit
set_option maxHeartbeats 4000000
set_option maxRecDepth 100000
set_option linter.unusedSimpArgs false
set_option linter.unusedVariables false

def cE (e : Ent) : List Value := [.string e.key, .int .i64 e.ctr, .int .i64 e.node, .string e.val, .bool e.dead]
theorem cE_len (e : Ent) : (cE e).length = 5 := rfl
theorem flatE_len : ∀ l : List Ent, (l.flatMap cE).length = l.length * 5
  | [] => rfl
  | e :: l => by rw [List.flatMap_cons, List.length_append, flatE_len l, cE_len, List.length_cons]; omega
theorem cE_one (l : List Ent) : ∀ u ∈ l.flatMap cE, u.oneCell' = true := fun u hu => by
  obtain ⟨r, -, hr⟩ := List.mem_flatMap.1 hu
  simp [cE] at hr
  rcases hr with rfl | rfl | rfl | rfl | rfl <;> rfl
/-- A row of one's own. -/
def OwEn (w : World) (B : Nat) (v : Value) (l : List Ent) : Prop := w.ownsRow B 57 5 v l.length (l.flatMap cE)
theorem radd_flatE {b o j : Nat} : (⟨b, o, none⟩ : Addr).add j = ⟨b, o + j, none⟩ := by
  unfold Addr.add
  split
  · rename_i h; subst h; rfl
  · rfl
theorem ent_infoE : ∃ i z, Tryd.prog.info? 57 = some i ∧ i.size = 5 ∧ i.bytes ≤ 128 ∧ 0 < i.bytes ∧ i.zero = some z ∧ z.cells = #[.string ⟨#[]⟩, .int .i64 0, .int .i64 0, .string ⟨#[]⟩, .bool false] := ⟨_, _, rfl, rfl, by decide, by decide, rfl, rfl⟩
theorem ownE_at {w : World} {B : Nat} {v : Value} {l : List Ent} (h : OwEn w B v l) (hp : 0 < l.length) : ∃ g c, v = .slice (some ⟨g, 0, none⟩) l.length c ∧ l.length ≤ c ∧ c ≤ 9223372036854775807 ∧ B ≤ g ∧ g < w.heap.size ∧ ∀ i, (hi : i < l.length) → EntAt w g (i * 5) l[i] := by
  obtain ⟨g, c, hv, hc⟩ := own_cell h hp
  have hlt := World.ownsRow.lt h g (by rw [hv]; rfl)
  have k0 : ∀ k, (hk : k < l.length) → ∀ r, r < 5 → ∀ u, (cE l[k])[r]? = some u → w.cell? ⟨g, k * 5 + r, none⟩ = some u := fun k hk r hr u hu => hc _ _ ((flat_get cE 5 (by omega) cE_len l k hk r hr).trans hu)
  rcases h.2 with ⟨h1, -⟩ | ⟨g', cap, cur, h1, h2, h3, h4, h5, -⟩
  · rw [hv] at h1; cases h1
  · rw [hv] at h1; cases h1
    exact ⟨g, c, hv, h4, by unfold maxLen at h5; exact h5, hlt.1, hlt.2, fun i hi => ⟨k0 i hi 0 (by omega) _ rfl, k0 i hi 1 (by omega) _ rfl, k0 i hi 2 (by omega) _ rfl, k0 i hi 3 (by omega) _ rfl, k0 i hi 4 (by omega) _ rfl⟩⟩
theorem OwEn.sl {w : World} {B : Nat} {v : Value} {l : List Ent} (h : OwEn w B v l) (hl : l.length ≤ 1000000000000) : EntSl w v l := by
  rcases Nat.eq_zero_or_pos l.length with h0 | hp
  · rcases h.2 with ⟨e1, e2⟩ | ⟨g, cap, cur, e1, e2, e3, e4, e5, e6⟩
    · exact ⟨none, 0, by rw [e1, h0], by omega, by omega, fun hp => by omega⟩
    · exact ⟨_, cap, e1, e4, by omega, fun hp => by omega⟩
  · obtain ⟨g, c, hv, h1, h2, -, -, h3⟩ := ownE_at h hp
    exact ⟨_, c, hv, h1, by omega, fun _ => ⟨g, 0, rfl, fun i hi => by rw [Nat.zero_add]; exact h3 i hi⟩⟩
theorem OwEn.new {w : World} {B : Nat} {v : Value} {l : List Ent} (h : OwEn w B v l) (hl : l.length ≤ 1000000000000) : ENew B w v l := ⟨h.sl hl, fun b o n c e hn => by
  subst e
  exact (World.ownsRow.lt h b rfl).1⟩
theorem OwEn.xl {L : List Nat} {w w' : World} (hx : Xl L w w') {v : Value} (hn : ∀ g, v.ownBlock = some g → g ∉ L) {B : Nat} {l : List Ent} (h : OwEn w B v l) : OwEn w' B v l := by
  rcases h.2 with ⟨e1, e2⟩ | ⟨g, cap, cur, e1, e2, e3, e4⟩
  · exact ⟨h.1, .inl ⟨e1, e2⟩⟩
  · have hg : g ∉ L := hn g (by rw [e1]; rfl)
    exact ⟨h.1, .inr ⟨g, cap, cur, e1, e2, (hx.block g (Array.getElem?_eq_some_iff.1 e3).1 hg).trans e3, e4⟩⟩
theorem OwEn.ext {w w' : World} {B : Nat} {v : Value} {l : List Ent} (h : OwEn w B v l) (hx : Ext w w') : OwEn w' B v l := own_ext h hx
theorem OwEn.lower {w : World} {B B' : Nat} {v : Value} {l : List Ent} (h : OwEn w B v l) (hB : B' ≤ B) : OwEn w B' v l :=
  ⟨h.1, h.2.imp id (fun ⟨g, cap, cur, e1, e2, e3⟩ => ⟨g, cap, cur, e1, Nat.le_trans hB e2, e3⟩)⟩
theorem ownE_empty {w : World} {B g : Nat} (hg : w.heap[g]? = some (.cells #[] 57 (0, 0))) (hB : B ≤ g) : OwEn w B (.slice (some ⟨g, 0, none⟩) 0 0) [] :=
  ⟨rfl, .inr ⟨g, 0, #[], rfl, hB, hg, Nat.le_refl _, by unfold maxLen; omega, rfl, rfl⟩⟩
theorem ownE_nil (w : World) (B : Nat) : OwEn w B (.slice none 0 0) [] := ⟨rfl, .inl ⟨rfl, rfl⟩⟩
theorem append_zero (w : World) (base : Option Addr) (n cap : Nat) (h : n ≤ cap) (x : Option Addr) (c : Nat) :
    (Builtin.append_ #[22, 22] 22 #[.slice base n cap, .slice x 0 c]).run Tryd.prog w = .ok (.slice base n cap) w := by
  cases base <;> cases x <;> go_simp
theorem appendE {w : World} {B : Nat} {v lv : Value} {M L : List Ent} (hown : OwEn w B v M) (hx : EntSl w lv L) (hl : M.length + L.length ≤ 1000000000) (hB : B ≤ w.heap.size) :
    ∃ v' w', (Builtin.append_ #[22, 22] 22 #[v, lv]).run Tryd.prog w = .ok v' w' ∧ OwEn w' B v' (M ++ L) ∧ w.grownBy w' v.ownBlock ∧ (v'.ownBlock = v.ownBlock ∨ v'.ownBlock = some w.heap.size) := by
  obtain ⟨a, c, rfl, hc, -, hcl⟩ := hx
  rcases Nat.eq_zero_or_pos L.length with h0 | hp
  · obtain rfl : L = [] := List.length_eq_zero_iff.1 h0
    rw [List.append_nil]
    refine ⟨v, w, ?_, hown, ⟨rfl, rfl, rfl, Nat.le_refl _, fun _ _ _ => rfl⟩, .inl rfl⟩
    rcases hown.2 with ⟨e1, e2⟩ | ⟨g, cap, cur, e1, e2, e3, e4, e5⟩
    · rw [e1]; exact append_zero w none 0 0 (Nat.le_refl _) a c
    · rw [e1]; exact append_zero w _ _ cap e4 a c
  · obtain ⟨b, o, rfl, hE⟩ := hcl hp
    obtain ⟨i0, z, hinf, hs, hby, hby0, hz, hcc⟩ := ent_infoE
    obtain ⟨v', w', h1, h2, h3, -, h4⟩ := run_append_own_at (P := Tryd.prog) w B 22 22 57 i0 z 5 i0.bytes Tryd.underlying22 hinf hz hs rfl (by rw [hcc]; rfl) (by omega) v M.length (M.flatMap cE) hown ⟨b, o, none⟩ L.length c (L.flatMap cE) (flatE_len L)
      (fun j u hj => by
        have hjl : j < L.length * 5 := by
          rw [← flatE_len L]
          exact (List.getElem?_eq_some_iff.1 hj).1
        obtain ⟨g0, g1, g2, g3, g4⟩ := hE (j / 5) (by omega)
        have e1 : j = j / 5 * 5 + j % 5 := by omega
        have h5 := flat_get cE 5 (by omega) cE_len L (j / 5) (by omega) (j % 5) (by omega)
        rw [← e1, hj] at h5
        rw [radd_flatE]
        have h6 : j % 5 = 0 ∨ j % 5 = 1 ∨ j % 5 = 2 ∨ j % 5 = 3 ∨ j % 5 = 4 := by omega
        rcases h6 with h6 | h6 | h6 | h6 | h6 <;> rw [h6] at h5 e1 <;> simp [cE] at h5 <;> subst h5
        · rw [show o + j = o + j / 5 * 5 by omega]; exact g0
        · rw [show o + j = o + j / 5 * 5 + 1 by omega]; exact g1
        · rw [show o + j = o + j / 5 * 5 + 2 by omega]; exact g2
        · rw [show o + j = o + j / 5 * 5 + 3 by omega]; exact g3
        · rw [show o + j = o + j / 5 * 5 + 4 by omega]; exact g4)
      (cE_one L) (by unfold maxLen; omega) (by
        have : (M.length + L.length) * i0.bytes ≤ 1000000000 * 128 := Nat.mul_le_mul hl hby
        first | omega | (simp; omega)) hB
    refine ⟨v', w', h1, ?_, h3, h4⟩
    unfold OwEn
    rw [List.length_append, List.flatMap_append]
    exact h2
end Go.Proofs.YtokcgnbjkbhmiaaDoor
namespace Go.Proofs.YtokcgnbjkbhmiaaDoor
open Go.RowKit
set_option maxHeartbeats 4000000
set_option maxRecDepth 100000
set_option linter.unusedSimpArgs false
set_option linter.unusedVariables false
attribute [local go_sem ↓] eql_entE neq_entE
attribute [-go_sem] Builtin.append_
theorem en_r9Pairs : Enters Tryd.prog 88 := ⟨_, Tryd.func88, by kernel_rfl, rfl⟩
def rfp (rb : Nat) (rv : Value) : List Nat := rb :: rv.ownBlock.toList
section
variable {B : Nat} {w w' : World} {rb : Nat} {rv : Value} {A : List Ent} {sv : Nat → Value} {ls : Nat → List Ent}
end
end Go.Proofs.YtokcgnbjkbhmiaaDoor
namespace Go.Proofs.YtokcgnbjkbhmiaaDoor
open Go.RowKit
set_option maxHeartbeats 4000000
set_option maxRecDepth 100000
set_option linter.unusedSimpArgs false
set_option linter.unusedVariables false
attribute [local go_sem ↓] eql_entE neq_entE
attribute [-go_sem] Builtin.append_

theorem eql_ver (w : World) (c n c' n' : Int) : (binOp .eql 55 (.agg #[.int .i64 c, .int .i64 n]) (.agg #[.int .i64 c', .int .i64 n'])).run Tryd.prog w = .ok (.bool (decide (c = c' ∧ n = n'))) w := by
  go_simp
  by_cases h1 : c = c' <;> by_cases h2 : n = n' <;> simp [*]
attribute [local go_sem ↓] eql_ver
theorem EAway.cons {L L' : List Nat} {v : Value} (h : EAway L v) (h' : EAway L' v) : EAway (L ++ L') v := fun b o n c e hn hm => (List.mem_append.1 hm).elim (h b o n c e hn) (h' b o n c e hn)
theorem wroteE_some {x y : Ent} {A : List Ent} (h : eChk x = 0) (hf : findN (nk x) A = some y) : wroteE x A = if y = x then 0 else 190 := by
  unfold wroteE; rw [if_neg (by rw [h]; simp), hf]
theorem wroteE_none {x : Ent} {A : List Ent} (h : eChk x = 0) (hf : findN (nk x) A = none) : wroteE x A = 0 := by
  unfold wroteE; rw [if_neg (by rw [h]; simp), hf]
theorem wroteA_some {x y : Ent} {A : List Ent} (h : eChk x = 0) (hf : findN (nk x) A = some y) : wroteA x A = A := by
  unfold wroteA; rw [if_neg (by rw [h]; simp), hf]
theorem wroteA_none {x : Ent} {A : List Ent} (h : eChk x = 0) (hf : findN (nk x) A = none) : wroteA x A = A ++ [x] := by
  unfold wroteA; rw [if_neg (by rw [h]; simp), hf]
theorem findN_first {A : List Ent} {k : Nat} {n : NK} (h : k < A.length) (hf : ∀ y ∈ A.take k, ¬ nk y = n) (e : nk A[k] = n) : findN n A = some A[k] := by
  have hsp : A = A.take k ++ A[k] :: A.drop (k + 1) := by rw [← List.drop_eq_getElem_cons h, List.take_append_drop]
  unfold findN
  conv => lhs; rw [hsp]
  rw [List.find?_append, List.find?_eq_none.2 (fun y hy => by simpa using hf y hy), Option.none_or, List.find?_cons_of_pos (by simpa using e)]
end Go.Proofs.YtokcgnbjkbhmiaaDoor
