/- Trees as plain data: their rows in order. -/
import Derived.Test.YtgglbohcnlcagaaTS
import Derived.Test.YtgglbohcnlcagaaTQ
import Derived.Test.YtgglbohcnlcagaaTP
import Derived.Test.YtgglbohcnlcagaaStr
namespace Go.Proofs.Ytgglbohcnlcagaa
set_option linter.unusedSimpArgs false
set_option linter.unusedVariables false

abbrev blt (a b : ByteArray) : Prop := Op.bytesLess a.toList b.toList = true
theorem blt_irrefl (a : ByteArray) : ¬ blt a a := by simp [bl_irrefl]
theorem blt_asymm {a b : ByteArray} (h : blt a b) : ¬ blt b a := by simp [bl_asymm h]
theorem blt_trans {a b c : ByteArray} (h : blt a b) (k : blt b c) : blt a c := bl_trans h k
theorem blt_eq {a b : ByteArray} (h : ¬ blt a b) (k : ¬ blt b a) : a = b := ba_ext (bl_eq (by simpa using h) (by simpa using k))
abbrev Rw (V S : Type) := ByteArray × V × S
def Srt {V S : Type} (L : List (Rw V S)) : Prop := L.Pairwise (fun a b => blt a.1 b.1)
def ins {V S : Type} (k : ByteArray) (v : V) (s : S) : List (Rw V S) → List (Rw V S)
  | [] => [(k, v, s)]
  | r :: L => if blt r.1 k then r :: ins k v s L else if blt k r.1 then (k, v, s) :: r :: L else (k, v, s) :: L
def fnd {V S : Type} (k : ByteArray) (L : List (Rw V S)) : Option (Rw V S) := L.find? fun r => decide (r.1 = k)
section
variable {V S : Type} {k : ByteArray} {v : V} {s : S}
theorem ins_left {p : Rw V S} (h : blt k p.1) (B : List (Rw V S)) : ∀ A : List (Rw V S), ins k v s (A ++ p :: B) = ins k v s A ++ p :: B
  | [] => by simp only [List.nil_append, ins]; rw [if_neg (blt_asymm h), if_pos h]; rfl
  | a :: A => by
    have ih := ins_left h B A
    simp only [List.cons_append, ins]
    split
    · rw [ih]; rfl
    · split <;> rfl
theorem ins_right (B : List (Rw V S)) : ∀ A : List (Rw V S), (∀ a ∈ A, blt a.1 k) → ins k v s (A ++ B) = A ++ ins k v s B
  | [], _ => rfl
  | a :: A, h => by
    have ih := ins_right B A (fun x hx => h x (List.mem_cons_of_mem _ hx))
    simp only [List.cons_append, ins]; rw [if_pos (h a (by simp)), ih]
theorem ins_mem {r : Rw V S} : ∀ {L : List (Rw V S)}, r ∈ ins k v s L → r = (k, v, s) ∨ r ∈ L
  | [], h => by simpa [ins] using h
  | a :: L, h => by
    simp only [ins] at h
    split at h
    · rcases List.mem_cons.1 h with h | h
      · exact .inr (by simp [h])
      · rcases ins_mem h with h | h
        · exact .inl h
        · exact .inr (List.mem_cons_of_mem _ h)
    · split at h
      · rcases List.mem_cons.1 h with h | h
        · exact .inl h
        · exact .inr h
      · rcases List.mem_cons.1 h with h | h
        · exact .inl h
        · exact .inr (List.mem_cons_of_mem _ h)
theorem ins_srt : ∀ {L : List (Rw V S)}, Srt L → Srt (ins k v s L)
  | [], _ => by simp [ins, Srt]
  | a :: L, h => by
    have h' := List.pairwise_cons.1 h
    simp only [ins]
    split
    · rename_i hk
      refine List.pairwise_cons.2 ⟨fun x hx => ?_, ins_srt h'.2⟩
      rcases ins_mem hx with rfl | hx
      · exact hk
      · exact h'.1 x hx
    · rename_i hk
      split
      · rename_i hk2
        refine List.pairwise_cons.2 ⟨fun x hx => ?_, h⟩
        rcases List.mem_cons.1 hx with rfl | hx
        · exact hk2
        · exact blt_trans hk2 (h'.1 x hx)
      · rename_i hk2
        have e := blt_eq hk hk2
        exact List.pairwise_cons.2 ⟨fun x hx => e ▸ h'.1 x hx, h'.2⟩
theorem fnd_ins {k : ByteArray} {v : V} {s : S} (q : ByteArray) : ∀ {L : List (Rw V S)}, Srt L → fnd q (ins k v s L) = if q = k then some (k, v, s) else fnd q L
  | [], _ => by
    simp only [ins, fnd, List.find?_cons, List.find?_nil]
    by_cases h : q = k
    · subst h; simp
    · have : ¬ k = q := fun e => h e.symm
      simp [h, this]
  | a :: L, h => by
    have h' := List.pairwise_cons.1 h
    have ih := fnd_ins (k := k) (v := v) (s := s) q h'.2
    simp only [fnd] at ih ⊢
    simp only [ins]
    split
    · rename_i hk
      simp only [List.find?_cons, ih]
      by_cases h1 : a.1 = q
      · have h2 : ¬ q = k := by rintro rfl; rw [h1] at hk; exact blt_irrefl _ hk
        simp [h1, h2]
      · simp [h1]
    · rename_i hk
      split
      · rename_i hk2
        rw [List.find?_cons]
        by_cases h1 : q = k
        · subst h1; simp
        · have : ¬ k = q := fun e => h1 e.symm
          simp [h1, this]
      · rename_i hk2
        have e := blt_eq hk hk2
        simp only [List.find?_cons]
        by_cases h1 : q = k
        · subst h1; simp
        · have : ¬ k = q := fun e => h1 e.symm
          simp [h1, this, e]
theorem fnd_at {L : List (Rw V S)} (h : Srt L) : ∀ i, (hi : i < L.length) → fnd L[i].1 L = some L[i] := by
  induction L with
  | nil => intro i hi; simp at hi
  | cons a L ih =>
    have h' := List.pairwise_cons.1 h
    intro i hi
    cases i with
    | zero => simp [fnd]
    | succ i =>
      have hi' : i < L.length := by simpa using hi
      have h1 := h'.1 L[i] (List.getElem_mem _)
      have h2 : ¬ a.1 = L[i].1 := by intro e; rw [e] at h1; exact blt_irrefl _ h1
      simp only [List.getElem_cons_succ, fnd, List.find?_cons, h2, decide_false]
      exact ih h'.2 i hi'
theorem fnd_some {L : List (Rw V S)} {r : Rw V S} (h : fnd k L = some r) : r.1 = k ∧ ∃ i, ∃ hi : i < L.length, L[i] = r := by
  have h1 := List.find?_some h
  have h2 := List.mem_of_find?_eq_some h
  exact ⟨by simpa using h1, List.getElem_of_mem h2⟩
/-- Two rows of rows in order in which all the same is found are the same. -/
theorem srt_ext : ∀ {A B : List (Rw V S)}, Srt A → Srt B → (∀ q, fnd q A = fnd q B) → A = B
  | [], [], _, _, _ => rfl
  | [], b :: B, _, _, h => by have := h b.1; simp [fnd] at this
  | a :: A, [], _, _, h => by have := h a.1; simp [fnd] at this
  | a :: A, b :: B, hA, hB, h => by
    have hA' := List.pairwise_cons.1 hA
    have hB' := List.pairwise_cons.1 hB
    have e : a = b := by
      have h1 := h a.1
      have h2 := h b.1
      have e1 : fnd a.1 (a :: A) = some a := by simp [fnd]
      have e2 : fnd b.1 (b :: B) = some b := by simp [fnd]
      rw [e1] at h1
      rw [e2] at h2
      by_cases hk : b.1 = a.1
      · rw [show fnd a.1 (b :: B) = some b by simp [fnd, hk]] at h1
        simpa using h1
      · have m1 : a ∈ B := by
          have := List.mem_of_find?_eq_some h1.symm
          rcases List.mem_cons.1 this with rfl | h
          · exact absurd rfl hk
          · exact h
        have m2 : b ∈ A := by
          have := List.mem_of_find?_eq_some h2
          rcases List.mem_cons.1 this with rfl | h
          · exact absurd rfl hk
          · exact h
        exact absurd (hA'.1 b m2) (blt_asymm (hB'.1 a m1))
    subst e
    congr 1
    refine srt_ext hA'.2 hB'.2 fun q => ?_
    have hq := h q
    by_cases hk : a.1 = q
    · have n1 : fnd q A = none := List.find?_eq_none.2 fun x hx e => by
        have := hA'.1 x hx
        have e' : x.1 = q := by simpa using e
        rw [hk, e'] at this; exact blt_irrefl _ this
      have n2 : fnd q B = none := List.find?_eq_none.2 fun x hx e => by
        have := hB'.1 x hx
        have e' : x.1 = q := by simpa using e
        rw [hk, e'] at this; exact blt_irrefl _ this
      rw [n1, n2]
    · simpa [fnd, hk] using hq
/-- How many rows lie below a key. -/
def cnt (k : ByteArray) (L : List (Rw V S)) : Nat := L.countP fun r => Op.bytesLess r.1.toList k.toList
theorem cnt_le (L : List (Rw V S)) : cnt k L ≤ L.length := List.countP_le_length
theorem cnt_zero {L : List (Rw V S)} (h : ∀ r ∈ L, ¬ blt r.1 k) : cnt k L = 0 := by
  unfold cnt
  rw [List.countP_eq_zero]
  exact h
theorem cnt_lt {k : ByteArray} : ∀ {L : List (Rw V S)}, Srt L → ∀ i, (hi : i < L.length) → (blt L[i].1 k ↔ i < cnt k L)
  | [], _, i, hi => by simp at hi
  | a :: L, h, i, hi => by
    have h' := List.pairwise_cons.1 h
    have ih := cnt_lt (k := k) h'.2
    by_cases hk : blt a.1 k
    · have e : cnt k (a :: L) = cnt k L + 1 := by simp [cnt, hk]
      rw [e]
      cases i with
      | zero => simp; exact hk
      | succ i => have := ih i (by simpa using hi); simp only [List.getElem_cons_succ, this]; omega
    · have h0 : ∀ r ∈ a :: L, ¬ blt r.1 k := by
        intro r hr
        rcases List.mem_cons.1 hr with rfl | hr
        · exact hk
        · intro h2; exact hk (blt_trans (h'.1 r hr) h2)
      rw [cnt_zero h0]
      have := h0 (a :: L)[i] (List.getElem_mem _)
      simp [this]
theorem cnt_at {L : List (Rw V S)} (h : Srt L) (i : Nat) (hi : i < L.length) : cnt L[i].1 L = i := by
  have h1 := cnt_lt h (k := L[i].1) i hi
  have h2 : ¬ i < cnt L[i].1 L := fun h3 => blt_irrefl _ (h1.2 h3)
  rcases Nat.lt_or_ge (cnt L[i].1 L) i with h3 | h3
  · have h4 := cnt_lt h (k := L[i].1) (cnt L[i].1 L) (by omega)
    have h5 : blt L[cnt L[i].1 L].1 L[i].1 := List.pairwise_iff_getElem.1 h _ _ (by omega) hi h3
    have := h4.1 h5
    omega
  · omega
/-- What is found lies where the rank says. -/
theorem fnd_cnt {L : List (Rw V S)} (h : Srt L) (k : ByteArray) : (fnd k L).isSome = true ↔ ∃ hi : cnt k L < L.length, L[cnt k L].1 = k := by
  constructor
  · intro h1
    obtain ⟨r, hr⟩ := Option.isSome_iff_exists.1 h1
    obtain ⟨e, i, hi, rfl⟩ := fnd_some hr
    have h2 := cnt_at h i hi
    rw [e] at h2
    subst h2
    exact ⟨hi, e⟩
  · rintro ⟨hi, e⟩
    have := fnd_at h (cnt k L) hi
    rw [e] at this
    rw [this]; rfl
end
namespace Tr
variable {V S : Type}
def rows : Tr V S → List (Rw V S)
  | nil => []
  | node l k v s r => l.rows ++ (k, v, s) :: r.rows
theorem rows_len : ∀ T : Tr V S, T.rows.length = T.size
  | nil => rfl
  | node l k v s r => by simp only [rows, size, List.length_append, List.length_cons, rows_len l, rows_len r]; omega
theorem bal_rows (l : Tr V S) (k : ByteArray) (v : V) (s : S) (r : Tr V S) : (bal l k v s r).rows = (node l k v s r).rows := by
  unfold bal
  split
  · split
    · rfl
    · split
      · simp [rows]
      · split
        · rfl
        · simp [rows]
  · split
    · split
      · rfl
      · split
        · simp [rows]
        · split
          · rfl
          · simp [rows]
    · rfl
theorem srt_node {l : Tr V S} {k : ByteArray} {v : V} {s : S} {r : Tr V S} (h : Srt (node l k v s r).rows) : Srt l.rows ∧ Srt r.rows ∧ (∀ a ∈ l.rows, blt a.1 k) ∧ (∀ a ∈ r.rows, blt k a.1) := by
  have h1 := List.pairwise_append.1 h
  have h2 := List.pairwise_cons.1 h1.2.1
  exact ⟨h1.1, h2.2, fun a ha => h1.2.2 a ha (k, v, s) (by simp), h2.1⟩
theorem put_rows (k : ByteArray) (v : V) (s : S) : ∀ T : Tr V S, Srt T.rows → (T.put k v s).rows = ins k v s T.rows
  | nil, _ => rfl
  | node l k' v' s' r, h => by
    obtain ⟨h1, h2, h3, h4⟩ := srt_node h
    unfold put
    split
    · rename_i hk
      rw [bal_rows, rows, put_rows k v s l h1, rows, ins_left hk]
    · rename_i hk
      split
      · rename_i hk2
        rw [bal_rows, rows, put_rows k v s r h2, rows, ins_right _ _ (fun a ha => blt_trans (h3 a ha) hk2)]
        simp only [ins]; rw [if_pos hk2]
      · rename_i hk2
        have e : k = k' := blt_eq hk hk2
        subst e
        rw [rows, rows, ins_right _ _ h3]
        simp only [ins]; rw [if_neg hk, if_neg hk]
theorem put_srt (k : ByteArray) (v : V) (s : S) (T : Tr V S) (h : Srt T.rows) : Srt (T.put k v s).rows := by rw [put_rows k v s T h]; exact ins_srt h
theorem fnd_append {k : ByteArray} (A B : List (Rw V S)) : fnd k (A ++ B) = (fnd k A).or (fnd k B) := by simp [fnd]
theorem fnd_none {k : ByteArray} {A : List (Rw V S)} (h : ∀ a ∈ A, ¬ a.1 = k) : fnd k A = none := List.find?_eq_none.2 fun x hx e => h x hx (by simpa using e)
theorem get_rows (k : ByteArray) : ∀ T : Tr V S, Srt T.rows → T.get k = (fnd k T.rows).map (·.2.1)
  | nil, _ => rfl
  | node l k' v' s' r, h => by
    obtain ⟨h1, h2, h3, h4⟩ := srt_node h
    rw [rows, fnd_append, get]
    split
    · rename_i hk
      rw [get_rows k l h1]
      have : fnd k ((k', v', s') :: r.rows) = none := fnd_none fun a ha e => by
        rcases List.mem_cons.1 ha with rfl | ha
        · rw [← e] at hk; exact blt_irrefl _ hk
        · have := blt_trans hk (h4 a ha); rw [e] at this; exact blt_irrefl _ this
      rw [this]; simp
    · rename_i hk
      have hl : ¬ blt k' k → ∀ a ∈ l.rows, ¬ a.1 = k := fun hn a ha e => by have := h3 a ha; rw [e] at this; exact hk this
      split
      · rename_i hk2
        rw [get_rows k r h2]
        have n1 : fnd k l.rows = none := fnd_none fun a ha e => by have := blt_trans (h3 a ha) hk2; rw [e] at this; exact blt_irrefl _ this
        have n2 : ¬ k' = k := fun e => by rw [e] at hk2; exact blt_irrefl _ hk2
        rw [n1]
        simp [fnd, n2]
      · rename_i hk2
        have e := blt_eq hk hk2
        rw [fnd_none (hl hk2)]
        simp [fnd, e]
theorem rank_rows (k : ByteArray) : ∀ T : Tr V S, Srt T.rows → T.rank k = cnt k T.rows
  | nil, _ => rfl
  | node l k' v' s' r, h => by
    obtain ⟨h1, h2, h3, h4⟩ := srt_node h
    have e : cnt k (node l k' v' s' r).rows = cnt k l.rows + cnt k ((k', v', s') :: r.rows) := by simp [rows, cnt]
    rw [e, rank]
    split
    · rename_i hk
      have h5 : cnt k l.rows = l.size := by
        rw [← rows_len]
        exact List.countP_eq_length.2 fun a ha => blt_trans (h3 a ha) hk
      rw [rank_rows k r h2, h5]
      have : cnt k ((k', v', s') :: r.rows) = cnt k r.rows + 1 := by simp [cnt, hk]
      omega
    · rename_i hk
      rw [rank_rows k l h1, cnt_zero (L := (k', v', s') :: r.rows)]
      · simp
      · intro a ha
        rcases List.mem_cons.1 ha with rfl | ha
        · exact hk
        · intro h5; exact hk (blt_trans (h4 a ha) h5)
theorem at_rows : ∀ (T : Tr V S) (i : Int), T.at_ i = if i < 0 then none else (T.rows[i.toNat]?).map (fun r => (r.1, r.2.1))
  | nil, i => by simp [at_, rows]
  | node l k v s r, i => by
    have h1 := at_rows l i
    have h2 := at_rows r (i - (l.size + 1))
    have hl := rows_len l
    rw [at_, rows]
    by_cases hi : i < 0
    · simp [hi]
    · simp only [hi, if_false]
      by_cases h3 : i < (l.size : Int)
      · rw [if_pos h3, h1, if_neg hi, List.getElem?_append_left (by omega)]
      · rw [if_neg h3]
        by_cases h4 : (l.size : Int) < i
        · rw [if_pos h4, h2, if_neg (by omega), List.getElem?_append_right (by omega), hl]
          have : i.toNat - l.size = (i - (l.size + 1)).toNat + 1 := by omega
          rw [this, List.getElem?_cons_succ]
        · rw [if_neg h4, List.getElem?_append_right (by omega), hl]
          have : i.toNat - l.size = 0 := by omega
          simp [this]
end Tr
end Go.Proofs.Ytgglbohcnlcagaa
