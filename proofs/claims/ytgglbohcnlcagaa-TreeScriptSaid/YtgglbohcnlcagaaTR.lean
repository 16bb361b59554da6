/- Trees as plain data: the summaries of which a fold is made. -/
import Derived.Test.YtgglbohcnlcagaaTQ
namespace Go.Proofs.Ytgglbohcnlcagaa
open Go.RowKit
set_option linter.unusedSimpArgs false
set_option linter.unusedVariables false
namespace Tr
variable {V S : Type}
def pieces (J : S → S → S) (z : S) : Tr V S → Int → Int → List S
  | nil, _, _ => []
  | node l k v s r, i, j =>
    if j ≤ i then [] else if i ≤ 0 ∧ ((node l k v s r).size : Int) ≤ j then [(node l k v s r).sum J z]
    else l.pieces J z i (min j l.size) ++ (if i ≤ l.size ∧ (l.size : Int) < j then [s] else []) ++ r.pieces J z (max (i - l.size - 1) 0) (j - l.size - 1)
theorem pieces_le (J : S → S → S) (z : S) : ∀ (T : Tr V S) (i j : Int), (T.pieces J z i j).length ≤ T.size
  | nil, _, _ => Nat.le_refl _
  | node l k v s r, i, j => by
    have h1 := pieces_le J z l i (min j l.size)
    have h2 := pieces_le J z r (max (i - l.size - 1) 0) (j - l.size - 1)
    simp only [pieces]
    split
    · simp [size]
    · split
      · simp [size]; omega
      · simp only [size, List.length_append]
        split <;> simp <;> omega
end Tr
/-- What a fold of pieces is: the first as it is, the others joined to it. -/
def foldP {S : Type} (J : S → S → S) (z : S) : List S → S
  | [] => z
  | s :: l => l.foldl J s
theorem foldP_snoc {S : Type} (J : S → S → S) (z : S) (l : List S) (s : S) (h : l ≠ []) : foldP J z (l ++ [s]) = J (foldP J z l) s := by
  cases l with
  | nil => exact absurd rfl h
  | cons a l => simp [foldP, List.foldl_append]
end Go.Proofs.Ytgglbohcnlcagaa
