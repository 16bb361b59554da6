/- Trees as plain data: a tree with a row. -/
import Derived.Test.YtgglbohcnlcagaaTA
namespace Go.Proofs.Ytgglbohcnlcagaa
open Go.RowKit
set_option linter.unusedSimpArgs false
set_option linter.unusedVariables false
namespace Tr
variable {V S : Type}
/-- A tree with a row. -/
def put (k : ByteArray) (v : V) (s : S) : Tr V S → Tr V S
  | nil => node nil k v s nil
  | node l k' v' s' r =>
    if Op.bytesLess k.toList k'.toList = true then bal (l.put k v s) k' v' s' r
    else if Op.bytesLess k'.toList k.toList = true then bal l k' v' s' (r.put k v s)
    else node l k v s r
theorem bal_wt (g : S → Nat) (l : Tr V S) (k : ByteArray) (v : V) (s : S) (r : Tr V S) : (bal l k v s r).wt g = (node l k v s r).wt g := by
  unfold bal
  split
  · split
    · rfl
    · split
      · simp only [wt]; omega
      · split
        · rfl
        · simp only [wt]; omega
  · split
    · split
      · rfl
      · split
        · simp only [wt]; omega
        · split
          · rfl
          · simp only [wt]; omega
    · rfl
theorem bal_size (l : Tr V S) (k : ByteArray) (v : V) (s : S) (r : Tr V S) : (bal l k v s r).size = (node l k v s r).size := by
  unfold bal
  split
  · split
    · rfl
    · split
      · simp only [size]; omega
      · split
        · rfl
        · simp only [size]; omega
  · split
    · split
      · rfl
      · split
        · simp only [size]; omega
        · split
          · rfl
          · simp only [size]; omega
    · rfl
theorem put_wt (g : S → Nat) (k : ByteArray) (v : V) (s : S) : ∀ T : Tr V S, (T.put k v s).wt g ≤ T.wt g + g s
  | nil => by simp [put, wt]
  | node l k' v' s' r => by
    have h1 := put_wt g k v s l
    have h2 := put_wt g k v s r
    unfold put
    split
    · rw [bal_wt]; simp only [wt]; omega
    · split
      · rw [bal_wt]; simp only [wt]; omega
      · simp only [wt]; omega
theorem put_size (k : ByteArray) (v : V) (s : S) : ∀ T : Tr V S, (T.put k v s).size ≤ T.size + 1
  | nil => by simp [put, size]
  | node l k' v' s' r => by
    have h1 := put_size k v s l
    have h2 := put_size k v s r
    unfold put
    split
    · rw [bal_size]; simp only [size]; omega
    · split
      · rw [bal_size]; simp only [size]; omega
      · simp only [size]; omega
end Tr
end Go.Proofs.Ytgglbohcnlcagaa
