/- Trees as plain data: they are even; of how many pieces a fold is made. -/
import Derived.Test.YtgglbohcnlcagaaTP
import Derived.Test.YtgglbohcnlcagaaTR
namespace Go.Proofs.Ytgglbohcnlcagaa
set_option linter.unusedSimpArgs false
set_option linter.unusedVariables false
namespace Tr
variable {V S : Type}
/-- No two trees beside each other differ in height by more than one. -/
def Even : Tr V S → Prop
  | nil => True
  | node l _ _ _ r => l.Even ∧ r.Even ∧ l.high ≤ r.high + 1 ∧ r.high ≤ l.high + 1
theorem bal_even (l : Tr V S) (k : ByteArray) (v : V) (s : S) (r : Tr V S) (hl : l.Even) (hr : r.Even) (h1 : l.high ≤ r.high + 2) (h2 : r.high ≤ l.high + 2) :
    (bal l k v s r).Even ∧ max l.high r.high ≤ (bal l k v s r).high ∧ (bal l k v s r).high ≤ max l.high r.high + 1 ∧ (l.high ≤ r.high + 1 → r.high ≤ l.high + 1 → (bal l k v s r).high = max l.high r.high + 1) := by
  unfold bal
  split
  · rename_i hb
    cases l with
    | nil => simp only [high] at hb; omega
    | node ll lk lv ls lr =>
      obtain ⟨e1, e2, e3, e4⟩ := hl
      simp only [high] at hb h1 h2
      dsimp only
      split
      · rename_i h3
        simp only [Even, high]
        refine ⟨⟨e1, ⟨e2, hr, ?_, ?_⟩, ?_, ?_⟩, ?_, ?_, ?_⟩ <;> omega
      · rename_i h3
        cases lr with
        | nil => simp only [high] at h3; omega
        | node ml mk mv ms mr =>
          obtain ⟨f1, f2, f3, f4⟩ := e2
          simp only [high] at h3 hb h1 h2 e3 e4
          simp only [Even, high]
          refine ⟨⟨⟨e1, f1, ?_, ?_⟩, ⟨f2, hr, ?_, ?_⟩, ?_, ?_⟩, ?_, ?_, ?_⟩ <;> omega
  · rename_i hb
    split
    · rename_i hb2
      cases r with
      | nil => simp only [high] at hb2; omega
      | node rl rk rv rs rr =>
        obtain ⟨e1, e2, e3, e4⟩ := hr
        simp only [high] at hb hb2 h1 h2
        dsimp only
        split
        · rename_i h3
          simp only [Even, high]
          refine ⟨⟨⟨hl, e1, ?_, ?_⟩, e2, ?_, ?_⟩, ?_, ?_, ?_⟩ <;> omega
        · rename_i h3
          cases rl with
          | nil => simp only [high] at h3; omega
          | node ml mk mv ms mr =>
            obtain ⟨f1, f2, f3, f4⟩ := e1
            simp only [high] at h3 hb hb2 h1 h2 e3 e4
            simp only [Even, high]
            refine ⟨⟨⟨hl, f1, ?_, ?_⟩, ⟨f2, e2, ?_, ?_⟩, ?_, ?_⟩, ?_, ?_, ?_⟩ <;> omega
    · rename_i hb2
      simp only [Even, high]
      refine ⟨⟨hl, hr, ?_, ?_⟩, ?_, ?_, ?_⟩ <;> omega
theorem put_even (k : ByteArray) (v : V) (s : S) : ∀ T : Tr V S, T.Even → (T.put k v s).Even ∧ T.high ≤ (T.put k v s).high ∧ (T.put k v s).high ≤ T.high + 1
  | nil, _ => by simp [put, Even, high]
  | node l k' v' s' r, h => by
    obtain ⟨e1, e2, e3, e4⟩ := h
    unfold put
    split
    · obtain ⟨p1, p2, p3⟩ := put_even k v s l e1
      obtain ⟨b1, b2, b3, b4⟩ := bal_even (l.put k v s) k' v' s' r p1 e2 (by omega) (by omega)
      refine ⟨b1, ?_, ?_⟩
      · by_cases h : (l.put k v s).high ≤ r.high + 1
        · rw [b4 h (by omega)]; simp only [high]; omega
        · simp only [high]; omega
      · by_cases h : (l.put k v s).high ≤ r.high + 1
        · rw [b4 h (by omega)]; simp only [high]; omega
        · simp only [high]; omega
    · split
      · obtain ⟨p1, p2, p3⟩ := put_even k v s r e2
        obtain ⟨b1, b2, b3, b4⟩ := bal_even l k' v' s' (r.put k v s) e1 p1 (by omega) (by omega)
        refine ⟨b1, ?_, ?_⟩
        · by_cases h : (r.put k v s).high ≤ l.high + 1
          · rw [b4 (by omega) h]; simp only [high]; omega
          · simp only [high]; omega
        · by_cases h : (r.put k v s).high ≤ l.high + 1
          · rw [b4 (by omega) h]; simp only [high]; omega
          · simp only [high]; omega
      · exact ⟨⟨e1, e2, e3, e4⟩, by simp only [high]; omega, by simp only [high]; omega⟩
theorem even_size : ∀ T : Tr V S, T.Even → 2 ^ (T.high / 2) ≤ T.size + 1
  | nil, _ => by simp [high, size]
  | node l k v s r, h => by
    obtain ⟨e1, e2, e3, e4⟩ := h
    have h1 := even_size l e1
    have h2 := even_size r e2
    simp only [high, size]
    have m : ∀ {a b : Nat}, a ≤ b → 2 ^ a ≤ 2 ^ b := fun h => Nat.pow_le_pow_right (by omega) h
    rcases Nat.eq_zero_or_pos (max l.high r.high) with h0 | h0
    · rw [h0]; simp
    · obtain ⟨q, hq⟩ : ∃ q, (1 + max l.high r.high) / 2 = q + 1 := ⟨(1 + max l.high r.high) / 2 - 1, by omega⟩
      rw [hq, Nat.pow_succ]
      have a1 : 2 ^ q ≤ 2 ^ (l.high / 2) := m (by omega)
      have a2 : 2 ^ q ≤ 2 ^ (r.high / 2) := m (by omega)
      omega
theorem put_size_le (k : ByteArray) (v : V) (s : S) : ∀ T : Tr V S, T.size ≤ (T.put k v s).size
  | nil => by simp [put, size]
  | node l k' v' s' r => by
    have h1 := put_size_le k v s l
    have h2 := put_size_le k v s r
    unfold put
    split
    · rw [bal_size]; simp only [size]; omega
    · split
      · rw [bal_size]; simp only [size]; omega
      · simp only [size]; omega
section
variable (J : S → S → S) (z : S)
theorem pieces_full : ∀ (T : Tr V S) (i j : Int), i ≤ 0 → (T.size : Int) ≤ j → (T.pieces J z i j).length ≤ 1
  | nil, _, _, _, _ => by simp [pieces]
  | node l k v s r, i, j, hi, hj => by
    simp only [pieces]
    split
    · simp
    · rw [if_pos ⟨hi, hj⟩]; simp
theorem pieces_none (T : Tr V S) (i j : Int) (h : j ≤ i) : (T.pieces J z i j).length = 0 := by
  cases T with
  | nil => simp [pieces]
  | node l k v s r => simp only [pieces]; rw [if_pos h]; rfl
theorem pieces_pre : ∀ (T : Tr V S) (i j : Int), i ≤ 0 → (T.pieces J z i j).length ≤ 2 * T.high + 1
  | nil, _, _, _ => by simp [pieces]
  | node l k v s r, i, j, hi => by
    have h1 := pieces_pre l i (min j l.size) hi
    have h2 := pieces_pre r (max (i - l.size - 1) 0) (j - l.size - 1) (by omega)
    have h3 := pieces_full J z l i (min j l.size) hi
    have h4 := pieces_none J z r (max (i - l.size - 1) 0) (j - l.size - 1)
    simp only [pieces, high]
    split
    · simp
    · split
      · simp
      · simp only [List.length_append]
        by_cases h : (l.size : Int) < j
        · have := h3 (by omega)
          split <;> simp <;> omega
        · rw [if_neg (by omega)]
          have := h4 (by omega)
          simp; omega
theorem pieces_suf : ∀ (T : Tr V S) (i j : Int), (T.size : Int) ≤ j → (T.pieces J z i j).length ≤ 2 * T.high + 1
  | nil, _, _, _ => by simp [pieces]
  | node l k v s r, i, j, hj => by
    simp only [size] at hj
    have h1 := pieces_suf l i (min j l.size) (by omega)
    have h2 := pieces_suf r (max (i - l.size - 1) 0) (j - l.size - 1) (by omega)
    have h3 := pieces_full J z r (max (i - l.size - 1) 0) (j - l.size - 1)
    have h4 := pieces_none J z l i (min j l.size)
    simp only [pieces, high]
    split
    · simp
    · split
      · simp
      · simp only [List.length_append]
        by_cases h : i ≤ (l.size : Int)
        · have := h3 (by omega) (by omega)
          split <;> simp <;> omega
        · rw [if_neg (by omega)]
          have := h4 (by omega)
          simp; omega
theorem pieces_cost : ∀ (T : Tr V S) (i j : Int), (T.pieces J z i j).length ≤ 4 * T.high + 1
  | nil, _, _ => by simp [pieces]
  | node l k v s r, i, j => by
    have h1 := pieces_cost l i (min j l.size)
    have h2 := pieces_cost r (max (i - l.size - 1) 0) (j - l.size - 1)
    have h3 := pieces_suf J z l i (min j l.size)
    have h4 := pieces_pre J z r (max (i - l.size - 1) 0) (j - l.size - 1)
    have h5 := pieces_none J z l i (min j l.size)
    have h6 := pieces_none J z r (max (i - l.size - 1) 0) (j - l.size - 1)
    simp only [pieces, high]
    split
    · simp
    · split
      · simp
      · simp only [List.length_append]
        by_cases ha : i ≤ (l.size : Int)
        · by_cases hb : (l.size : Int) < j
          · have a1 := h3 (by omega)
            have a2 := h4 (by omega)
            split <;> simp <;> omega
          · rw [if_neg (by omega)]
            have := h6 (by omega)
            simp; omega
        · rw [if_neg (by omega)]
          have := h5 (by omega)
          simp; omega
end
/-- The bound holds what is joined. -/
theorem cost_ok {h n l : Nat} (h1 : 2 ^ (h / 2) ≤ n + 1) (h2 : n + 1 ≤ 2 ^ l) : 6 * h + 2 ≤ 16 * (1 + l) := by
  have h3 : h / 2 ≤ l := (Nat.pow_le_pow_iff_right (by omega)).1 (Nat.le_trans h1 h2)
  omega
end Tr
end Go.Proofs.Ytgglbohcnlcagaa
