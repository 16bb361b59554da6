/- Trees as plain data: how heavy the pieces of a fold are; a fold, piece by piece. -/
import Derived.Test.YtgglbohcnlcagaaTR
namespace Go.Proofs.Ytgglbohcnlcagaa
open Go.RowKit
set_option linter.unusedSimpArgs false
set_option linter.unusedVariables false
namespace Tr
variable {V S : Type}
theorem pieces_wt (J : S → S → S) (z : S) {g : S → Nat} (hg : ∀ a b, g (J a b) ≤ g a + g b) : ∀ (T : Tr V S) (i j : Int), ((T.pieces J z i j).map g).sum ≤ T.wt g
  | nil, _, _ => Nat.le_refl _
  | node l k v s r, i, j => by
    have h1 := pieces_wt J z hg l i (min j l.size)
    have h2 := pieces_wt J z hg r (max (i - l.size - 1) 0) (j - l.size - 1)
    have h3 := wt_sum (z := z) hg (node l k v s r) rfl
    simp only [pieces]
    split
    · simp
    · split
      · simpa using h3
      · simp only [wt, List.map_append, List.sum_append]
        split <;> simp <;> omega
end Tr
theorem foldP_wt {S : Type} {J : S → S → S} {z : S} {g : S → Nat} (hg : ∀ a b, g (J a b) ≤ g a + g b) : ∀ l : List S, l ≠ [] → g (foldP J z l) ≤ (l.map g).sum
  | [], h => absurd rfl h
  | s :: l, _ => by
    have key : ∀ (l : List S) (a : S), g (l.foldl J a) ≤ g a + (l.map g).sum := by
      intro l
      induction l with
      | nil => intro a; simp
      | cons b l ih => intro a; have := ih (J a b); have := hg a b; simp only [List.foldl_cons, List.map_cons, List.sum_cons]; omega
    simpa [foldP] using key l s
theorem take_ne {S : Type} (l : List S) (m : Nat) (hm : m < l.length) (h0 : 0 < m) : l.take m ≠ [] := by
  intro h
  have h1 : (l.take m).length = m := by rw [List.length_take]; omega
  rw [h] at h1
  simp at h1
  omega
theorem foldP_take {S : Type} (J : S → S → S) (z : S) (l : List S) (m : Nat) (hm : m < l.length) (h0 : 0 < m) : foldP J z (l.take (m + 1)) = J (foldP J z (l.take m)) l[m] := by
  rw [List.take_succ_eq_append_getElem hm, foldP_snoc _ _ _ _ (take_ne l m hm h0)]
theorem foldP_one {S : Type} (J : S → S → S) (z : S) (l : List S) (hm : 0 < l.length) : foldP J z (l.take 1) = l[0] := by
  cases l with
  | nil => simp at hm
  | cons a l => rfl
theorem foldP_room {S : Type} {J : S → S → S} {z : S} {g : S → Nat} (hg : ∀ a b, g (J a b) ≤ g a + g b) (l : List S) (m : Nat) (hm : m < l.length) (h0 : 0 < m) : g (foldP J z (l.take m)) + g l[m] ≤ (l.map g).sum := by
  have h1 := foldP_wt (z := z) hg (l.take m) (take_ne l m hm h0)
  have h2 : (l.map g).sum = ((l.take (m + 1)).map g).sum + ((l.drop (m + 1)).map g).sum := by rw [← List.sum_append, ← List.map_append, List.take_append_drop]
  rw [List.take_succ_eq_append_getElem hm, List.map_append, List.sum_append] at h2
  have h3 : (([l[m]] : List S).map g).sum = g l[m] := by simp
  omega
end Go.Proofs.Ytgglbohcnlcagaa
