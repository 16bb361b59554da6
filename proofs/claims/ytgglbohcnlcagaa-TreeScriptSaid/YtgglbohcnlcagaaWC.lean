/- The document's tree in memory: Clone, Put. -/
import Derived.Test.YtgglbohcnlcagaaWB
namespace Go.Proofs.Ytgglbohcnlcagaa
open Go.RowKit
set_option maxHeartbeats 2000000
set_option maxRecDepth 100000
set_option linter.unusedSimpArgs false
set_option linter.unusedVariables false

theorem flatR_len : ∀ L : List R1, (L.flatMap cR).length = L.length * 4
  | [] => rfl
  | r :: L => by rw [List.flatMap_cons, List.length_append, cR_len, flatR_len L, List.length_cons]; omega
theorem append_none {w : World} {B : Nat} {v : Value} {M : List R1} (hown : OwnR w B v M) (c : Nat) :
    ∃ v', (Builtin.append_ #[55, 55] 55 #[v, .slice none 0 c]).run Try.prog w = .ok v' w ∧ OwnR w B v' M := by
  rcases hown.2 with ⟨rfl, h0⟩ | ⟨g, cap, cur, rfl, h2, h3, h4, h5, h6, h7⟩
  · refine ⟨.slice none 0 0, ?_, hown⟩
    go_simp
  · refine ⟨_, ?_, hown⟩
    go_simp
theorem appendR_all {w : World} {B : Nat} {v sv : Value} {M L : List R1} (hown : OwnR w B v M) (hS : RowsSl w sv L) (hn : M.length + L.length ≤ 3000000000000) (hB : B ≤ w.heap.size) :
    ∃ v' w', (Builtin.append_ #[55, 55] 55 #[v, sv]).run Try.prog w = .ok v' w' ∧ OwnR w' B v' (M ++ L) ∧ w.grownBy w' v.ownBlock := by
  obtain ⟨a, c, rfl, h1, h2, h3⟩ := hS
  cases a with
  | none =>
    have h0 : L.length = 0 := by
      rcases Nat.eq_zero_or_pos L.length with h | h
      · exact h
      · obtain ⟨b, o, e, -⟩ := h3 h; cases e
    have hL := List.eq_nil_of_length_eq_zero h0
    subst hL
    obtain ⟨v', k1, k2⟩ := append_none hown c
    exact ⟨v', w, k1, by rw [List.append_nil]; exact k2, grown_of_ext (Ext.refl w) _⟩
  | some a =>
    obtain ⟨i, z, hinf, hs, hby, hz, hcc⟩ := rR_info
    obtain ⟨v', w', k1, k2, k3, -, -⟩ := run_append_own_at (P := Try.prog) w B 55 55 75 i z 4 40 Try.underlying55 hinf hz hs hby hcc (by omega) v M.length (M.flatMap cR) hown a L.length c (L.flatMap cR)
      (flatR_len L)
      (fun j u hj => by
        have hjl : j < L.length * 4 := by
          rw [← flatR_len L]
          exact (List.getElem?_eq_some_iff.1 hj).1
        obtain ⟨b, o, e, hr⟩ := h3 (by omega)
        cases e
        obtain ⟨g0, g1, g2, g3⟩ := hr (j / 4) (by omega)
        have e1 : j = j / 4 * 4 + j % 4 := by omega
        have h5 := flat_get cR 4 (by omega) cR_len L (j / 4) (by omega) (j % 4) (by omega)
        rw [← e1, hj] at h5
        rw [radd_flat]
        have h6 : j % 4 = 0 ∨ j % 4 = 1 ∨ j % 4 = 2 ∨ j % 4 = 3 := by omega
        rcases h6 with h6 | h6 | h6 | h6 <;> rw [h6] at h5 e1 <;> simp [cR] at h5 <;> subst h5
        · rw [show o + j = o + j / 4 * 4 by omega]; exact g0
        · rw [show o + j = o + j / 4 * 4 + 1 by omega]; exact g1
        · rw [show o + j = o + j / 4 * 4 + 2 by omega]; exact g2
        · rw [show o + j = o + j / 4 * 4 + 3 by omega]; exact g3)
      (by
        intro u hu
        obtain ⟨r, -, hr⟩ := List.mem_flatMap.1 hu
        simp [cR] at hr
        rcases hr with rfl | rfl | rfl | rfl <;> rfl) (by unfold maxLen; omega) (by omega) hB
    refine ⟨v', w', k1, ?_, k3⟩
    unfold OwnR
    rw [List.length_append, List.flatMap_append]
    exact k2
theorem ownR_sl {w : World} {B : Nat} {v : Value} {M : List R1} (h : OwnR w B v M) (hl : M.length ≤ 4398046511104) : RowsSl w v M := by
  rcases Nat.eq_zero_or_pos M.length with h0 | hp
  · have hM := List.eq_nil_of_length_eq_zero h0
    subst hM
    obtain ⟨a, c, rfl⟩ := own_form h
    exact ⟨a, c, rfl, by simp, by simp, by simp⟩
  · obtain ⟨g, c, rfl, -, h2, h3⟩ := ownR_mine h hp
    exact h3.sl h2 hl
/-- In which block a document's tree's rows lie. -/
def RowsIn (w : World) (rb g : Nat) : Prop := ∃ a n c, w.cell? ⟨rb, 0, none⟩ = some (.slice a n c) ∧ (0 < n → ∃ o, a = some ⟨g, o, none⟩)
theorem RTree.xl {w w' : World} {rb g b : Nat} {L : List R1} (h : RTree w rb L) (hi : RowsIn w rb g) (hx : Xl [b] w w') (h1 : rb ≠ b) (h2 : g ≠ b) : RTree w' rb L ∧ RowsIn w' rb g := by
  obtain ⟨⟨sv, k1, k2⟩, k3⟩ := h
  obtain ⟨a, n, c, e1, e2⟩ := hi
  have hx' := hx.xt1
  have hn : (some b : Option Nat) ≠ some rb := fun e => h1 (by cases e; rfl)
  rw [k1] at e1
  cases e1
  refine ⟨⟨⟨_, hx'.rd k1 hn, ?_⟩, hx'.fz k1 hn k3⟩, ⟨a, n, c, hx'.rd k1 hn, e2⟩⟩
  obtain ⟨a', c', q1, q2, q3, q4⟩ := k2
  cases q1
  refine ⟨_, _, rfl, q2, q3, fun hp => ?_⟩
  obtain ⟨bb, o, rfl, hr⟩ := q4 hp
  obtain ⟨o', e⟩ := e2 hp
  cases e
  exact ⟨_, o, rfl, hr.xt hx' (fun e => h2 (by cases e; rfl))⟩
theorem ownR_in {w : World} {B n : Nat} {a : Option Addr} {c : Nat} {M : List R1} (h : OwnR w B (.slice a n c) M) (hp : 0 < M.length) : ∃ g, B ≤ g ∧ (0 < n → ∃ o, a = some ⟨g, o, none⟩) := by
  obtain ⟨g, c', e, hg, -, -⟩ := ownR_mine h hp
  cases e
  exact ⟨g, hg, fun _ => ⟨0, rfl⟩⟩
theorem ownR_lt {w : World} {B n : Nat} {a : Option Addr} {c : Nat} {M : List R1} (h : OwnR w B (.slice a n c) M) (hp : 0 < M.length) : ∃ g, B ≤ g ∧ g < w.heap.size ∧ (0 < n → ∃ o, a = some ⟨g, o, none⟩) := by
  obtain ⟨g, c', e, hg, -, hm⟩ := ownR_mine h hp
  cases e
  exact ⟨g, hg, cell_lt (hm.rows 0 hp).1, fun _ => ⟨0, rfl⟩⟩
theorem ownR_nil (w : World) (B : Nat) : OwnR w B (.slice none 0 0) [] := ⟨by simp, .inl ⟨rfl, rfl⟩⟩
attribute [-go_sem] Builtin.append_
theorem rclone_any {w : World} {rb : Nat} {L : List R1} (h : RTree w rb L) (hl : L.length ≤ 3000000000000) :
    Calls Try.prog 100 #[.pointer (some ⟨rb, 0, none⟩)] w fun e w' => ∃ rb', e = .returned (.pointer (some ⟨rb', 0, none⟩)) ∧ w.heap.size ≤ rb' ∧ RTree w' rb' L ∧ (∃ g, w.heap.size ≤ g ∧ RowsIn w' rb' g ∧ (0 < L.length → g < rb')) ∧ Ext w w' := by
  obtain ⟨⟨sv, h1, h2⟩, h3⟩ := h
  obtain ⟨v', w', hrun, ho, hg⟩ := appendR_all (ownR_nil w w.heap.size) h2 (by simp; omega) (Nat.le_refl _)
  have HO := hid_mk ho
  have HX := hid_mk (ext_grown (Ext.refl w) hg (ownR_nil w w.heap.size) (Nat.le_refl _))
  obtain ⟨a, c, rfl⟩ := own_form ho
  have HIN := hid_mk (show ∃ g, w.heap.size ≤ g ∧ (0 < L.length → (∃ o, a = some ⟨g, o, none⟩) ∧ g < w'.heap.size) by
    rcases Nat.eq_zero_or_pos L.length with h0 | hp
    · exact ⟨w.heap.size, Nat.le_refl _, fun h => by omega⟩
    · obtain ⟨g, q1, q3, q2⟩ := ownR_lt ho (by simpa using hp)
      exact ⟨g, q1, fun h => ⟨q2 (by simpa using h), q3⟩⟩)
  obtain ⟨a2, c2, rfl, -, -, -⟩ := h2
  have hrl := cell_lt h1
  clear ho hg h3
  go_enter Try.func100, Try.ntmps100
  go_wp2
  go_ret
  have hs := ownR_sl HO.out (by simp; omega)
  rw [List.nil_append] at hs
  refine ⟨w'.heap.size, rfl, HX.out.below.size, ⟨⟨_, by go_simp, hs.ext (by (repeat (first | exact Ext.refl _ | apply Ext.drew_left | apply Ext.drew | apply Ext.alloc)))⟩, by go_simp⟩, HIN.out.imp fun g hg => ⟨hg.1, ⟨a, L.length, c, by go_simp, fun h => (hg.2 h).1⟩, fun h => (hg.2 h).2⟩, HX.out.alloc _⟩
end Go.Proofs.Ytgglbohcnlcagaa
