/- Trees as plain data: a tree with a row. Trees as plain data: what is asked of one. Trees as plain data: the summaries of which a fold is made. Trees as plain data: how heavy the pieces of a fold are; a fold, piece by piece. -/
import Derived.Test.YtokcgnbjkbhmiaaDoorMTA
namespace Go.Proofs.YtokcgnbjkbhmiaaDoor
open Go.RowKit
set_option linter.unusedSimpArgs false
set_option linter.unusedVariables false
namespace Tr
variable {V S : Type}
/-- A tree with a row. -/
def put (k : ByteArray) (v : V) (s : S) : Tr V S → Tr V S
  | nil => node nil k v s nil
  | node l k' v' s' r =>
    if Op.bytesLess k.toList k'.toList = true then bal (l.put k v s) k' v' s' r
    else if Op.bytesLess k'.toList k.toList = true then bal l k' v' s' (r.put k v s)
    else node l k v s r
theorem bal_wt (g : S → Nat) (l : Tr V S) (k : ByteArray) (v : V) (s : S) (r : Tr V S) : (bal l k v s r).wt g = (node l k v s r).wt g := by
  unfold bal
  split
  · split
    · rfl
    · split
      · simp only [wt]; omega
      · split
        · rfl
        · simp only [wt]; omega
  · split
    · split
      · rfl
      · split
        · simp only [wt]; omega
        · split
          · rfl
          · simp only [wt]; omega
    · rfl
theorem bal_size (l : Tr V S) (k : ByteArray) (v : V) (s : S) (r : Tr V S) : (bal l k v s r).size = (node l k v s r).size := by
  unfold bal
  split
  · split
    · rfl
    · split
      · simp only [size]; omega
      · split
        · rfl
        · simp only [size]; omega
  · split
    · split
      · rfl
      · split
        · simp only [size]; omega
        · split
          · rfl
          · simp only [size]; omega
    · rfl
theorem put_wt (g : S → Nat) (k : ByteArray) (v : V) (s : S) : ∀ T : Tr V S, (T.put k v s).wt g ≤ T.wt g + g s
  | nil => by simp [put, wt]
  | node l k' v' s' r => by
    have h1 := put_wt g k v s l
    have h2 := put_wt g k v s r
    unfold put
    split
    · rw [bal_wt]; simp only [wt]; omega
    · split
      · rw [bal_wt]; simp only [wt]; omega
      · simp only [wt]; omega
theorem put_size (k : ByteArray) (v : V) (s : S) : ∀ T : Tr V S, (T.put k v s).size ≤ T.size + 1
  | nil => by simp [put, size]
  | node l k' v' s' r => by
    have h1 := put_size k v s l
    have h2 := put_size k v s r
    unfold put
    split
    · rw [bal_size]; simp only [size]; omega
    · split
      · rw [bal_size]; simp only [size]; omega
      · simp only [size]; omega
end Tr
end Go.Proofs.YtokcgnbjkbhmiaaDoor
namespace Go.Proofs.YtokcgnbjkbhmiaaDoor
open Go.RowKit
set_option linter.unusedSimpArgs false
set_option linter.unusedVariables false
namespace Tr
variable {V S : Type}
def get (k : ByteArray) : Tr V S → Option V
  | nil => none
  | node l k' v' _ r => if Op.bytesLess k.toList k'.toList = true then l.get k else if Op.bytesLess k'.toList k.toList = true then r.get k else some v'
def rank (k : ByteArray) : Tr V S → Nat
  | nil => 0
  | node l k' _ _ r => if Op.bytesLess k'.toList k.toList = true then l.size + 1 + r.rank k else l.rank k
def at_ (i : Int) : Tr V S → Option (ByteArray × V)
  | nil => none
  | node l k v _ r => if i < 0 then none else if i < l.size then l.at_ i else if (l.size : Int) < i then r.at_ (i - (l.size + 1)) else some (k, v)
theorem at_neg {i : Int} (hi : i < 0) : ∀ T : Tr V S, T.at_ i = none
  | nil => rfl
  | node l k v _ r => by simp [at_, hi]
theorem rank_le (k : ByteArray) : ∀ T : Tr V S, T.rank k ≤ T.size
  | nil => Nat.le_refl _
  | node l k' v s r => by
    have h1 := rank_le k l
    have h2 := rank_le k r
    simp only [rank, size]
    split <;> omega
end Tr
end Go.Proofs.YtokcgnbjkbhmiaaDoor
namespace Go.Proofs.YtokcgnbjkbhmiaaDoor
open Go.RowKit
set_option linter.unusedSimpArgs false
set_option linter.unusedVariables false
namespace Tr
variable {V S : Type}
def pieces (J : S → S → S) (z : S) : Tr V S → Int → Int → List S
  | nil, _, _ => []
  | node l k v s r, i, j =>
    if j ≤ i then [] else if i ≤ 0 ∧ ((node l k v s r).size : Int) ≤ j then [(node l k v s r).sum J z]
    else l.pieces J z i (min j l.size) ++ (if i ≤ l.size ∧ (l.size : Int) < j then [s] else []) ++ r.pieces J z (max (i - l.size - 1) 0) (j - l.size - 1)
theorem pieces_le (J : S → S → S) (z : S) : ∀ (T : Tr V S) (i j : Int), (T.pieces J z i j).length ≤ T.size
  | nil, _, _ => Nat.le_refl _
  | node l k v s r, i, j => by
    have h1 := pieces_le J z l i (min j l.size)
    have h2 := pieces_le J z r (max (i - l.size - 1) 0) (j - l.size - 1)
    simp only [pieces]
    split
    · simp [size]
    · split
      · simp [size]; omega
      · simp only [size, List.length_append]
        split <;> simp <;> omega
end Tr
/-- What a fold of pieces is: the first as it is, the others joined to it. -/
def foldP {S : Type} (J : S → S → S) (z : S) : List S → S
  | [] => z
  | s :: l => l.foldl J s
theorem foldP_snoc {S : Type} (J : S → S → S) (z : S) (l : List S) (s : S) (h : l ≠ []) : foldP J z (l ++ [s]) = J (foldP J z l) s := by
  cases l with
  | nil => exact absurd rfl h
  | cons a l => simp [foldP, List.foldl_append]
end Go.Proofs.YtokcgnbjkbhmiaaDoor
namespace Go.Proofs.YtokcgnbjkbhmiaaDoor
open Go.RowKit
set_option linter.unusedSimpArgs false
set_option linter.unusedVariables false
namespace Tr
variable {V S : Type}
theorem pieces_wt (J : S → S → S) (z : S) {g : S → Nat} (hg : ∀ a b, g (J a b) ≤ g a + g b) : ∀ (T : Tr V S) (i j : Int), ((T.pieces J z i j).map g).sum ≤ T.wt g
  | nil, _, _ => Nat.le_refl _
  | node l k v s r, i, j => by
    have h1 := pieces_wt J z hg l i (min j l.size)
    have h2 := pieces_wt J z hg r (max (i - l.size - 1) 0) (j - l.size - 1)
    have h3 := wt_sum (z := z) hg (node l k v s r) rfl
    simp only [pieces]
    split
    · simp
    · split
      · simpa using h3
      · simp only [wt, List.map_append, List.sum_append]
        split <;> simp <;> omega
end Tr
theorem foldP_wt {S : Type} {J : S → S → S} {z : S} {g : S → Nat} (hg : ∀ a b, g (J a b) ≤ g a + g b) : ∀ l : List S, l ≠ [] → g (foldP J z l) ≤ (l.map g).sum
  | [], h => absurd rfl h
  | s :: l, _ => by
    have key : ∀ (l : List S) (a : S), g (l.foldl J a) ≤ g a + (l.map g).sum := by
      intro l
      induction l with
      | nil => intro a; simp
      | cons b l ih => intro a; have := ih (J a b); have := hg a b; simp only [List.foldl_cons, List.map_cons, List.sum_cons]; omega
    simpa [foldP] using key l s
theorem take_ne {S : Type} (l : List S) (m : Nat) (hm : m < l.length) (h0 : 0 < m) : l.take m ≠ [] := by
  intro h
  have h1 : (l.take m).length = m := by rw [List.length_take]; omega
  rw [h] at h1
  simp at h1
  omega
theorem foldP_take {S : Type} (J : S → S → S) (z : S) (l : List S) (m : Nat) (hm : m < l.length) (h0 : 0 < m) : foldP J z (l.take (m + 1)) = J (foldP J z (l.take m)) l[m] := by
  rw [List.take_succ_eq_append_getElem hm, foldP_snoc _ _ _ _ (take_ne l m hm h0)]
theorem foldP_one {S : Type} (J : S → S → S) (z : S) (l : List S) (hm : 0 < l.length) : foldP J z (l.take 1) = l[0] := by
  cases l with
  | nil => simp at hm
  | cons a l => rfl
theorem foldP_room {S : Type} {J : S → S → S} {z : S} {g : S → Nat} (hg : ∀ a b, g (J a b) ≤ g a + g b) (l : List S) (m : Nat) (hm : m < l.length) (h0 : 0 < m) : g (foldP J z (l.take m)) + g l[m] ≤ (l.map g).sum := by
  have h1 := foldP_wt (z := z) hg (l.take m) (take_ne l m hm h0)
  have h2 : (l.map g).sum = ((l.take (m + 1)).map g).sum + ((l.drop (m + 1)).map g).sum := by rw [← List.sum_append, ← List.map_append, List.take_append_drop]
  rw [List.take_succ_eq_append_getElem hm, List.map_append, List.sum_append] at h2
  have h3 : (([l[m]] : List S).map g).sum = g l[m] := by simp
  omega
end Go.Proofs.YtokcgnbjkbhmiaaDoor
