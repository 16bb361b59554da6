/- Trees as plain data: folds. -/
import Derived.Test.YtgglbohcnlcagaaTL
namespace Go.Proofs.Ytgglbohcnlcagaa
set_option linter.unusedSimpArgs false
set_option linter.unusedVariables false
section
variable {S : Type} {J : S → S → S} {z : S}
theorem foldl_assoc (hJ : ∀ a b c, J (J a b) c = J a (J b c)) : ∀ (l : List S) (a b : S), l.foldl J (J a b) = J a (l.foldl J b)
  | [], a, b => rfl
  | c :: l, a, b => by rw [List.foldl_cons, hJ, foldl_assoc hJ l, List.foldl_cons]
theorem foldP_app (hJ : ∀ a b c, J (J a b) c = J a (J b c)) {A B : List S} (hA : A ≠ []) (hB : B ≠ []) : foldP J z (A ++ B) = J (foldP J z A) (foldP J z B) := by
  cases A with
  | nil => exact absurd rfl hA
  | cons a A =>
    cases B with
    | nil => exact absurd rfl hB
    | cons b B => simp only [List.cons_append, foldP, List.foldl_append, List.foldl_cons]; rw [foldl_assoc hJ]
/-- Two rows of summaries that are as good as each other in any fold. -/
def Alike (J : S → S → S) (z : S) (P Q : List S) : Prop := ∀ A B : List S, foldP J z (A ++ P ++ B) = foldP J z (A ++ Q ++ B)
theorem Alike.refl (P : List S) : Alike J z P P := fun _ _ => rfl
theorem Alike.trans {P Q R : List S} (h : Alike J z P Q) (k : Alike J z Q R) : Alike J z P R := fun A B => (h A B).trans (k A B)
theorem Alike.app {P Q P' Q' : List S} (h : Alike J z P Q) (k : Alike J z P' Q') : Alike J z (P ++ P') (Q ++ Q') := fun A B => by
  have h1 := h A (P' ++ B)
  have h2 := k (A ++ Q) B
  simp only [List.append_assoc] at *
  rw [h1, h2]
theorem Alike.fold {P Q : List S} (h : Alike J z P Q) : foldP J z P = foldP J z Q := by have := h [] []; simpa using this
theorem alike_one (hJ : ∀ a b c, J (J a b) c = J a (J b c)) {P : List S} (hP : P ≠ []) : Alike J z [foldP J z P] P := fun A B => by
  have h1 : ∀ B : List S, foldP J z ([foldP J z P] ++ B) = foldP J z (P ++ B) := by
    intro B
    cases B with
    | nil => simp [foldP]
    | cons b B => rw [foldP_app hJ (by simp) (by simp), foldP_app hJ hP (by simp)]; rfl
  cases A with
  | nil => simpa using h1 B
  | cons a A => rw [List.append_assoc, List.append_assoc, foldP_app hJ (A := a :: A) (B := [foldP J z P] ++ B) (by simp) (by simp), foldP_app hJ (A := a :: A) (B := P ++ B) (by simp) (by simp [hP]), h1 B]
def sl {α : Type} (L : List α) (i j : Nat) : List α := (L.take j).drop i
theorem sl_app {α : Type} (L : List α) {i j k : Nat} (h1 : i ≤ j) (h2 : j ≤ k) : sl L i j ++ sl L j k = sl L i k := by
  unfold sl
  have e : L.take j = (L.take k).take j := by rw [List.take_take, Nat.min_eq_left h2]
  rw [e]
  generalize L.take k = M
  have : M.drop i = (M.take j ++ M.drop j).drop i := by rw [List.take_append_drop]
  rw [this, List.drop_append]
  by_cases hj : j ≤ M.length
  · rw [List.length_take, Nat.min_eq_left hj, Nat.sub_eq_zero_of_le h1, List.drop_zero]
  · rw [List.drop_eq_nil_of_le (by omega : M.length ≤ j)]; simp
theorem sl_all {α : Type} (L : List α) {j : Nat} (h : L.length ≤ j) : sl L 0 j = L := by simp [sl, List.take_of_length_le h]
theorem sl_none {α : Type} (L : List α) {i j : Nat} (h : j ≤ i) : sl L i j = [] := by
  unfold sl
  rw [List.drop_eq_nil_of_le]
  rw [List.length_take]; omega
theorem sl_split {α : Type} (A : List α) (m : α) (B : List α) (i j : Nat) :
    sl (A ++ m :: B) i j = sl A i (min j A.length) ++ (if i ≤ A.length ∧ A.length < j then [m] else []) ++ sl B (i - A.length - 1) (j - A.length - 1) := by
  by_cases hj : j ≤ A.length
  · rw [if_neg (by omega), Nat.min_eq_left hj, sl_none B (by omega), List.append_nil, List.append_nil]
    unfold sl
    rw [List.take_append_of_le_length hj]
  · have e1 : min j A.length = A.length := by omega
    obtain ⟨q, hq⟩ : ∃ q, j = A.length + (q + 1) := ⟨j - A.length - 1, by omega⟩
    have e2 : j - A.length - 1 = q := by omega
    rw [e1, e2]
    unfold sl
    rw [hq, List.take_length_add_append, List.take_succ_cons, List.take_length, List.drop_append]
    by_cases hi : i ≤ A.length
    · have e3 : i - A.length = 0 := by omega
      rw [if_pos ⟨hi, by omega⟩, e3]
      simp
    · rw [if_neg (by omega), List.drop_eq_nil_of_le (by omega)]
      obtain ⟨p, hp⟩ : ∃ p, i - A.length = p + 1 := ⟨i - A.length - 1, by omega⟩
      rw [hp]
      simp
end
namespace Tr
variable {V S : Type} {J : S → S → S} {z : S}
theorem rows_ne {T : Tr V S} (h : T.isNil = false) : T.rows ≠ [] := by
  cases T with
  | nil => cases h
  | node l k v s r => simp [rows]
theorem rows_nil {T : Tr V S} (h : T.isNil = true) : T.rows = [] := by
  cases T with
  | nil => rfl
  | node l k v s r => cases h
abbrev sums (T : Tr V S) : List S := T.rows.map (·.2.2)
theorem sum_rows (hJ : ∀ a b c, J (J a b) c = J a (J b c)) : ∀ T : Tr V S, T.sum J z = foldP J z T.sums
  | nil => rfl
  | node l k v s r => by
    have hl := sum_rows hJ l
    have hr := sum_rows hJ r
    have e : (node l k v s r).sums = l.sums ++ [s] ++ r.sums := by simp [sums, rows]
    have e1 : (if l.isNil then s else J (l.sum J z) s) = foldP J z (l.sums ++ [s]) := by
      cases hn : l.isNil with
      | true => simp [sums, rows_nil hn, foldP]
      | false => rw [foldP_app hJ (by simpa [sums] using rows_ne hn) (by simp), ← hl]; rfl
    rw [e, sum, e1]
    cases hn : r.isNil with
    | true => simp [sums, rows_nil hn]
    | false => rw [foldP_app hJ (A := l.sums ++ [s]) (B := r.sums) (by simp) (by simpa [sums] using rows_ne hn), ← hr]; rfl
theorem sums_len (T : Tr V S) : T.sums.length = T.size := by rw [List.length_map, rows_len]
theorem pieces_rows (hJ : ∀ a b c, J (J a b) c = J a (J b c)) : ∀ (T : Tr V S) (i j : Int), 0 ≤ i → Alike J z (T.pieces J z i j) (sl T.sums i.toNat j.toNat)
  | nil, i, j, _ => by simp only [pieces, sums, rows, List.map_nil, sl, List.take_nil, List.drop_nil]; exact Alike.refl _
  | node l k v s r, i, j, hi => by
    have hl := pieces_rows hJ l i (min j l.size) hi
    have hr := pieces_rows hJ r (max (i - l.size - 1) 0) (j - l.size - 1) (by omega)
    have hlen := sums_len l
    simp only [pieces]
    split
    · rename_i h
      rw [sl_none _ (by omega)]
      exact Alike.refl _
    · split
      · rename_i h1 h2
        have e : i.toNat = 0 := by omega
        rw [e, sl_all _ (by rw [sums_len]; omega), sum_rows hJ]
        exact alike_one hJ (by simp [sums, rows])
      · have e : (node l k v s r).sums = l.sums ++ s :: r.sums := by simp [sums, rows]
        rw [e, sl_split]
        refine (Alike.app ?_ ?_).app ?_
        · have e1 : min j.toNat l.sums.length = (min j (l.size : Int)).toNat := by omega
          rw [e1]; exact hl
        · have e1 : (i ≤ (l.size : Int) ∧ (l.size : Int) < j) ↔ (i.toNat ≤ l.sums.length ∧ l.sums.length < j.toNat) := by rw [hlen]; omega
          simp only [e1]
          exact Alike.refl _
        · have e1 : i.toNat - l.sums.length - 1 = (max (i - l.size - 1) 0).toNat := by omega
          have e2 : j.toNat - l.sums.length - 1 = (j - l.size - 1).toNat := by omega
          rw [e1, e2]; exact hr
theorem fold_rows (hJ : ∀ a b c, J (J a b) c = J a (J b c)) (T : Tr V S) (i j : Int) : foldP J z (T.pieces J z (max i 0) (min j T.size)) = foldP J z (sl T.sums i.toNat (min j.toNat T.size)) := by
  rw [(pieces_rows hJ T (max i 0) (min j T.size) (by omega)).fold]
  congr 2 <;> omega
end Tr
end Go.Proofs.Ytgglbohcnlcagaa
