/- Trees as plain data: their rows in order. Trees as plain data: folds. -/
import Derived.Test.YtokcgnbjkbhmiaaDoorMTP
import Derived.Test.YtokcgnbjkbhmiaaDoorStr
namespace Go.Proofs.YtokcgnbjkbhmiaaDoor
set_option linter.unusedSimpArgs false
set_option linter.unusedVariables false

abbrev blt (a b : ByteArray) : Prop := Op.bytesLess a.toList b.toList = true
theorem blt_irrefl (a : ByteArray) : ¬ blt a a := by simp [bl_irrefl]
theorem blt_asymm {a b : ByteArray} (h : blt a b) : ¬ blt b a := by simp [bl_asymm h]
theorem blt_trans {a b c : ByteArray} (h : blt a b) (k : blt b c) : blt a c := bl_trans h k
theorem blt_eq {a b : ByteArray} (h : ¬ blt a b) (k : ¬ blt b a) : a = b := ba_ext (bl_eq (by simpa using h) (by simpa using k))
abbrev Rw (V S : Type) := ByteArray × V × S
def Srt {V S : Type} (L : List (Rw V S)) : Prop := L.Pairwise (fun a b => blt a.1 b.1)
def ins {V S : Type} (k : ByteArray) (v : V) (s : S) : List (Rw V S) → List (Rw V S)
  | [] => [(k, v, s)]
  | r :: L => if blt r.1 k then r :: ins k v s L else if blt k r.1 then (k, v, s) :: r :: L else (k, v, s) :: L
def fnd {V S : Type} (k : ByteArray) (L : List (Rw V S)) : Option (Rw V S) := L.find? fun r => decide (r.1 = k)
section
variable {V S : Type} {k : ByteArray} {v : V} {s : S}
theorem ins_left {p : Rw V S} (h : blt k p.1) (B : List (Rw V S)) : ∀ A : List (Rw V S), ins k v s (A ++ p :: B) = ins k v s A ++ p :: B
  | [] => by simp only [List.nil_append, ins]; rw [if_neg (blt_asymm h), if_pos h]; rfl
  | a :: A => by
    have ih := ins_left h B A
    simp only [List.cons_append, ins]
    split
    · rw [ih]; rfl
    · split <;> rfl
theorem ins_right (B : List (Rw V S)) : ∀ A : List (Rw V S), (∀ a ∈ A, blt a.1 k) → ins k v s (A ++ B) = A ++ ins k v s B
  | [], _ => rfl
  | a :: A, h => by
    have ih := ins_right B A (fun x hx => h x (List.mem_cons_of_mem _ hx))
    simp only [List.cons_append, ins]; rw [if_pos (h a (by simp)), ih]
theorem ins_mem {r : Rw V S} : ∀ {L : List (Rw V S)}, r ∈ ins k v s L → r = (k, v, s) ∨ r ∈ L
  | [], h => by simpa [ins] using h
  | a :: L, h => by
    simp only [ins] at h
    split at h
    · rcases List.mem_cons.1 h with h | h
      · exact .inr (by simp [h])
      · rcases ins_mem h with h | h
        · exact .inl h
        · exact .inr (List.mem_cons_of_mem _ h)
    · split at h
      · rcases List.mem_cons.1 h with h | h
        · exact .inl h
        · exact .inr h
      · rcases List.mem_cons.1 h with h | h
        · exact .inl h
        · exact .inr (List.mem_cons_of_mem _ h)
theorem ins_srt : ∀ {L : List (Rw V S)}, Srt L → Srt (ins k v s L)
  | [], _ => by simp [ins, Srt]
  | a :: L, h => by
    have h' := List.pairwise_cons.1 h
    simp only [ins]
    split
    · rename_i hk
      refine List.pairwise_cons.2 ⟨fun x hx => ?_, ins_srt h'.2⟩
      rcases ins_mem hx with rfl | hx
      · exact hk
      · exact h'.1 x hx
    · rename_i hk
      split
      · rename_i hk2
        refine List.pairwise_cons.2 ⟨fun x hx => ?_, h⟩
        rcases List.mem_cons.1 hx with rfl | hx
        · exact hk2
        · exact blt_trans hk2 (h'.1 x hx)
      · rename_i hk2
        have e := blt_eq hk hk2
        exact List.pairwise_cons.2 ⟨fun x hx => e ▸ h'.1 x hx, h'.2⟩
theorem fnd_ins {k : ByteArray} {v : V} {s : S} (q : ByteArray) : ∀ {L : List (Rw V S)}, Srt L → fnd q (ins k v s L) = if q = k then some (k, v, s) else fnd q L
  | [], _ => by
    simp only [ins, fnd, List.find?_cons, List.find?_nil]
    by_cases h : q = k
    · subst h; simp
    · have : ¬ k = q := fun e => h e.symm
      simp [h, this]
  | a :: L, h => by
    have h' := List.pairwise_cons.1 h
    have ih := fnd_ins (k := k) (v := v) (s := s) q h'.2
    simp only [fnd] at ih ⊢
    simp only [ins]
    split
    · rename_i hk
      simp only [List.find?_cons, ih]
      by_cases h1 : a.1 = q
      · have h2 : ¬ q = k := by rintro rfl; rw [h1] at hk; exact blt_irrefl _ hk
        simp [h1, h2]
      · simp [h1]
    · rename_i hk
      split
      · rename_i hk2
        rw [List.find?_cons]
        by_cases h1 : q = k
        · subst h1; simp
        · have : ¬ k = q := fun e => h1 e.symm
          simp [h1, this]
      · rename_i hk2
        have e := blt_eq hk hk2
        simp only [List.find?_cons]
        by_cases h1 : q = k
        · subst h1; simp
        · have : ¬ k = q := fun e => h1 e.symm
          simp [h1, this, e]
theorem fnd_at {L : List (Rw V S)} (h : Srt L) : ∀ i, (hi : i < L.length) → fnd L[i].1 L = some L[i] := by
  induction L with
  | nil => intro i hi; simp at hi
  | cons a L ih =>
    have h' := List.pairwise_cons.1 h
    intro i hi
    cases i with
    | zero => simp [fnd]
    | succ i =>
      have hi' : i < L.length := by simpa using hi
      have h1 := h'.1 L[i] (List.getElem_mem _)
      have h2 : ¬ a.1 = L[i].1 := by intro e; rw [e] at h1; exact blt_irrefl _ h1
      simp only [List.getElem_cons_succ, fnd, List.find?_cons, h2, decide_false]
      exact ih h'.2 i hi'
theorem fnd_some {L : List (Rw V S)} {r : Rw V S} (h : fnd k L = some r) : r.1 = k ∧ ∃ i, ∃ hi : i < L.length, L[i] = r := by
  have h1 := List.find?_some h
  have h2 := List.mem_of_find?_eq_some h
  exact ⟨by simpa using h1, List.getElem_of_mem h2⟩
/-- Two rows of rows in order in which all the same is found are the same. -/
theorem srt_ext : ∀ {A B : List (Rw V S)}, Srt A → Srt B → (∀ q, fnd q A = fnd q B) → A = B
  | [], [], _, _, _ => rfl
  | [], b :: B, _, _, h => by have := h b.1; simp [fnd] at this
  | a :: A, [], _, _, h => by have := h a.1; simp [fnd] at this
  | a :: A, b :: B, hA, hB, h => by
    have hA' := List.pairwise_cons.1 hA
    have hB' := List.pairwise_cons.1 hB
    have e : a = b := by
      have h1 := h a.1
      have h2 := h b.1
      have e1 : fnd a.1 (a :: A) = some a := by simp [fnd]
      have e2 : fnd b.1 (b :: B) = some b := by simp [fnd]
      rw [e1] at h1
      rw [e2] at h2
      by_cases hk : b.1 = a.1
      · rw [show fnd a.1 (b :: B) = some b by simp [fnd, hk]] at h1
        simpa using h1
      · have m1 : a ∈ B := by
          have := List.mem_of_find?_eq_some h1.symm
          rcases List.mem_cons.1 this with rfl | h
          · exact absurd rfl hk
          · exact h
        have m2 : b ∈ A := by
          have := List.mem_of_find?_eq_some h2
          rcases List.mem_cons.1 this with rfl | h
          · exact absurd rfl hk
          · exact h
        exact absurd (hA'.1 b m2) (blt_asymm (hB'.1 a m1))
    subst e
    congr 1
    refine srt_ext hA'.2 hB'.2 fun q => ?_
    have hq := h q
    by_cases hk : a.1 = q
    · have n1 : fnd q A = none := List.find?_eq_none.2 fun x hx e => by
        have := hA'.1 x hx
        have e' : x.1 = q := by simpa using e
        rw [hk, e'] at this; exact blt_irrefl _ this
      have n2 : fnd q B = none := List.find?_eq_none.2 fun x hx e => by
        have := hB'.1 x hx
        have e' : x.1 = q := by simpa using e
        rw [hk, e'] at this; exact blt_irrefl _ this
      rw [n1, n2]
    · simpa [fnd, hk] using hq
/-- How many rows lie below a key. -/
def cnt (k : ByteArray) (L : List (Rw V S)) : Nat := L.countP fun r => Op.bytesLess r.1.toList k.toList
theorem cnt_le (L : List (Rw V S)) : cnt k L ≤ L.length := List.countP_le_length
theorem cnt_zero {L : List (Rw V S)} (h : ∀ r ∈ L, ¬ blt r.1 k) : cnt k L = 0 := by
  unfold cnt
  rw [List.countP_eq_zero]
  exact h
theorem cnt_lt {k : ByteArray} : ∀ {L : List (Rw V S)}, Srt L → ∀ i, (hi : i < L.length) → (blt L[i].1 k ↔ i < cnt k L)
  | [], _, i, hi => by simp at hi
  | a :: L, h, i, hi => by
    have h' := List.pairwise_cons.1 h
    have ih := cnt_lt (k := k) h'.2
    by_cases hk : blt a.1 k
    · have e : cnt k (a :: L) = cnt k L + 1 := by simp [cnt, hk]
      rw [e]
      cases i with
      | zero => simp; exact hk
      | succ i => have := ih i (by simpa using hi); simp only [List.getElem_cons_succ, this]; omega
    · have h0 : ∀ r ∈ a :: L, ¬ blt r.1 k := by
        intro r hr
        rcases List.mem_cons.1 hr with rfl | hr
        · exact hk
        · intro h2; exact hk (blt_trans (h'.1 r hr) h2)
      rw [cnt_zero h0]
      have := h0 (a :: L)[i] (List.getElem_mem _)
      simp [this]
theorem cnt_at {L : List (Rw V S)} (h : Srt L) (i : Nat) (hi : i < L.length) : cnt L[i].1 L = i := by
  have h1 := cnt_lt h (k := L[i].1) i hi
  have h2 : ¬ i < cnt L[i].1 L := fun h3 => blt_irrefl _ (h1.2 h3)
  rcases Nat.lt_or_ge (cnt L[i].1 L) i with h3 | h3
  · have h4 := cnt_lt h (k := L[i].1) (cnt L[i].1 L) (by omega)
    have h5 : blt L[cnt L[i].1 L].1 L[i].1 := List.pairwise_iff_getElem.1 h _ _ (by omega) hi h3
    have := h4.1 h5
    omega
  · omega
/-- What is found lies where the rank says. -/
theorem fnd_cnt {L : List (Rw V S)} (h : Srt L) (k : ByteArray) : (fnd k L).isSome = true ↔ ∃ hi : cnt k L < L.length, L[cnt k L].1 = k := by
  constructor
  · intro h1
    obtain ⟨r, hr⟩ := Option.isSome_iff_exists.1 h1
    obtain ⟨e, i, hi, rfl⟩ := fnd_some hr
    have h2 := cnt_at h i hi
    rw [e] at h2
    subst h2
    exact ⟨hi, e⟩
  · rintro ⟨hi, e⟩
    have := fnd_at h (cnt k L) hi
    rw [e] at this
    rw [this]; rfl
end
namespace Tr
variable {V S : Type}
def rows : Tr V S → List (Rw V S)
  | nil => []
  | node l k v s r => l.rows ++ (k, v, s) :: r.rows
theorem rows_len : ∀ T : Tr V S, T.rows.length = T.size
  | nil => rfl
  | node l k v s r => by simp only [rows, size, List.length_append, List.length_cons, rows_len l, rows_len r]; omega
theorem bal_rows (l : Tr V S) (k : ByteArray) (v : V) (s : S) (r : Tr V S) : (bal l k v s r).rows = (node l k v s r).rows := by
  unfold bal
  split
  · split
    · rfl
    · split
      · simp [rows]
      · split
        · rfl
        · simp [rows]
  · split
    · split
      · rfl
      · split
        · simp [rows]
        · split
          · rfl
          · simp [rows]
    · rfl
theorem srt_node {l : Tr V S} {k : ByteArray} {v : V} {s : S} {r : Tr V S} (h : Srt (node l k v s r).rows) : Srt l.rows ∧ Srt r.rows ∧ (∀ a ∈ l.rows, blt a.1 k) ∧ (∀ a ∈ r.rows, blt k a.1) := by
  have h1 := List.pairwise_append.1 h
  have h2 := List.pairwise_cons.1 h1.2.1
  exact ⟨h1.1, h2.2, fun a ha => h1.2.2 a ha (k, v, s) (by simp), h2.1⟩
theorem put_rows (k : ByteArray) (v : V) (s : S) : ∀ T : Tr V S, Srt T.rows → (T.put k v s).rows = ins k v s T.rows
  | nil, _ => rfl
  | node l k' v' s' r, h => by
    obtain ⟨h1, h2, h3, h4⟩ := srt_node h
    unfold put
    split
    · rename_i hk
      rw [bal_rows, rows, put_rows k v s l h1, rows, ins_left hk]
    · rename_i hk
      split
      · rename_i hk2
        rw [bal_rows, rows, put_rows k v s r h2, rows, ins_right _ _ (fun a ha => blt_trans (h3 a ha) hk2)]
        simp only [ins]; rw [if_pos hk2]
      · rename_i hk2
        have e : k = k' := blt_eq hk hk2
        subst e
        rw [rows, rows, ins_right _ _ h3]
        simp only [ins]; rw [if_neg hk, if_neg hk]
theorem put_srt (k : ByteArray) (v : V) (s : S) (T : Tr V S) (h : Srt T.rows) : Srt (T.put k v s).rows := by rw [put_rows k v s T h]; exact ins_srt h
theorem fnd_append {k : ByteArray} (A B : List (Rw V S)) : fnd k (A ++ B) = (fnd k A).or (fnd k B) := by simp [fnd]
theorem fnd_none {k : ByteArray} {A : List (Rw V S)} (h : ∀ a ∈ A, ¬ a.1 = k) : fnd k A = none := List.find?_eq_none.2 fun x hx e => h x hx (by simpa using e)
theorem get_rows (k : ByteArray) : ∀ T : Tr V S, Srt T.rows → T.get k = (fnd k T.rows).map (·.2.1)
  | nil, _ => rfl
  | node l k' v' s' r, h => by
    obtain ⟨h1, h2, h3, h4⟩ := srt_node h
    rw [rows, fnd_append, get]
    split
    · rename_i hk
      rw [get_rows k l h1]
      have : fnd k ((k', v', s') :: r.rows) = none := fnd_none fun a ha e => by
        rcases List.mem_cons.1 ha with rfl | ha
        · rw [← e] at hk; exact blt_irrefl _ hk
        · have := blt_trans hk (h4 a ha); rw [e] at this; exact blt_irrefl _ this
      rw [this]; simp
    · rename_i hk
      have hl : ¬ blt k' k → ∀ a ∈ l.rows, ¬ a.1 = k := fun hn a ha e => by have := h3 a ha; rw [e] at this; exact hk this
      split
      · rename_i hk2
        rw [get_rows k r h2]
        have n1 : fnd k l.rows = none := fnd_none fun a ha e => by have := blt_trans (h3 a ha) hk2; rw [e] at this; exact blt_irrefl _ this
        have n2 : ¬ k' = k := fun e => by rw [e] at hk2; exact blt_irrefl _ hk2
        rw [n1]
        simp [fnd, n2]
      · rename_i hk2
        have e := blt_eq hk hk2
        rw [fnd_none (hl hk2)]
        simp [fnd, e]
theorem rank_rows (k : ByteArray) : ∀ T : Tr V S, Srt T.rows → T.rank k = cnt k T.rows
  | nil, _ => rfl
  | node l k' v' s' r, h => by
    obtain ⟨h1, h2, h3, h4⟩ := srt_node h
    have e : cnt k (node l k' v' s' r).rows = cnt k l.rows + cnt k ((k', v', s') :: r.rows) := by simp [rows, cnt]
    rw [e, rank]
    split
    · rename_i hk
      have h5 : cnt k l.rows = l.size := by
        rw [← rows_len]
        exact List.countP_eq_length.2 fun a ha => blt_trans (h3 a ha) hk
      rw [rank_rows k r h2, h5]
      have : cnt k ((k', v', s') :: r.rows) = cnt k r.rows + 1 := by simp [cnt, hk]
      omega
    · rename_i hk
      rw [rank_rows k l h1, cnt_zero (L := (k', v', s') :: r.rows)]
      · simp
      · intro a ha
        rcases List.mem_cons.1 ha with rfl | ha
        · exact hk
        · intro h5; exact hk (blt_trans (h4 a ha) h5)
theorem at_rows : ∀ (T : Tr V S) (i : Int), T.at_ i = if i < 0 then none else (T.rows[i.toNat]?).map (fun r => (r.1, r.2.1))
  | nil, i => by simp [at_, rows]
  | node l k v s r, i => by
    have h1 := at_rows l i
    have h2 := at_rows r (i - (l.size + 1))
    have hl := rows_len l
    rw [at_, rows]
    by_cases hi : i < 0
    · simp [hi]
    · simp only [hi, if_false]
      by_cases h3 : i < (l.size : Int)
      · rw [if_pos h3, h1, if_neg hi, List.getElem?_append_left (by omega)]
      · rw [if_neg h3]
        by_cases h4 : (l.size : Int) < i
        · rw [if_pos h4, h2, if_neg (by omega), List.getElem?_append_right (by omega), hl]
          have : i.toNat - l.size = (i - (l.size + 1)).toNat + 1 := by omega
          rw [this, List.getElem?_cons_succ]
        · rw [if_neg h4, List.getElem?_append_right (by omega), hl]
          have : i.toNat - l.size = 0 := by omega
          simp [this]
end Tr
end Go.Proofs.YtokcgnbjkbhmiaaDoor
namespace Go.Proofs.YtokcgnbjkbhmiaaDoor
set_option linter.unusedSimpArgs false
set_option linter.unusedVariables false
section
variable {S : Type} {J : S → S → S} {z : S}
theorem foldl_assoc (hJ : ∀ a b c, J (J a b) c = J a (J b c)) : ∀ (l : List S) (a b : S), l.foldl J (J a b) = J a (l.foldl J b)
  | [], a, b => rfl
  | c :: l, a, b => by rw [List.foldl_cons, hJ, foldl_assoc hJ l, List.foldl_cons]
theorem foldP_app (hJ : ∀ a b c, J (J a b) c = J a (J b c)) {A B : List S} (hA : A ≠ []) (hB : B ≠ []) : foldP J z (A ++ B) = J (foldP J z A) (foldP J z B) := by
  cases A with
  | nil => exact absurd rfl hA
  | cons a A =>
    cases B with
    | nil => exact absurd rfl hB
    | cons b B => simp only [List.cons_append, foldP, List.foldl_append, List.foldl_cons]; rw [foldl_assoc hJ]
/-- Two rows of summaries that are as good as each other in any fold. -/
def Alike (J : S → S → S) (z : S) (P Q : List S) : Prop := ∀ A B : List S, foldP J z (A ++ P ++ B) = foldP J z (A ++ Q ++ B)
theorem Alike.refl (P : List S) : Alike J z P P := fun _ _ => rfl
theorem Alike.trans {P Q R : List S} (h : Alike J z P Q) (k : Alike J z Q R) : Alike J z P R := fun A B => (h A B).trans (k A B)
theorem Alike.app {P Q P' Q' : List S} (h : Alike J z P Q) (k : Alike J z P' Q') : Alike J z (P ++ P') (Q ++ Q') := fun A B => by
  have h1 := h A (P' ++ B)
  have h2 := k (A ++ Q) B
  simp only [List.append_assoc] at *
  rw [h1, h2]
theorem Alike.fold {P Q : List S} (h : Alike J z P Q) : foldP J z P = foldP J z Q := by have := h [] []; simpa using this
theorem alike_one (hJ : ∀ a b c, J (J a b) c = J a (J b c)) {P : List S} (hP : P ≠ []) : Alike J z [foldP J z P] P := fun A B => by
  have h1 : ∀ B : List S, foldP J z ([foldP J z P] ++ B) = foldP J z (P ++ B) := by
    intro B
    cases B with
    | nil => simp [foldP]
    | cons b B => rw [foldP_app hJ (by simp) (by simp), foldP_app hJ hP (by simp)]; rfl
  cases A with
  | nil => simpa using h1 B
  | cons a A => rw [List.append_assoc, List.append_assoc, foldP_app hJ (A := a :: A) (B := [foldP J z P] ++ B) (by simp) (by simp), foldP_app hJ (A := a :: A) (B := P ++ B) (by simp) (by simp [hP]), h1 B]
def sl {α : Type} (L : List α) (i j : Nat) : List α := (L.take j).drop i
theorem sl_app {α : Type} (L : List α) {i j k : Nat} (h1 : i ≤ j) (h2 : j ≤ k) : sl L i j ++ sl L j k = sl L i k := by
  unfold sl
  have e : L.take j = (L.take k).take j := by rw [List.take_take, Nat.min_eq_left h2]
  rw [e]
  generalize L.take k = M
  have : M.drop i = (M.take j ++ M.drop j).drop i := by rw [List.take_append_drop]
  rw [this, List.drop_append]
  by_cases hj : j ≤ M.length
  · rw [List.length_take, Nat.min_eq_left hj, Nat.sub_eq_zero_of_le h1, List.drop_zero]
  · rw [List.drop_eq_nil_of_le (by omega : M.length ≤ j)]; simp
theorem sl_all {α : Type} (L : List α) {j : Nat} (h : L.length ≤ j) : sl L 0 j = L := by simp [sl, List.take_of_length_le h]
theorem sl_none {α : Type} (L : List α) {i j : Nat} (h : j ≤ i) : sl L i j = [] := by
  unfold sl
  rw [List.drop_eq_nil_of_le]
  rw [List.length_take]; omega
theorem sl_split {α : Type} (A : List α) (m : α) (B : List α) (i j : Nat) :
    sl (A ++ m :: B) i j = sl A i (min j A.length) ++ (if i ≤ A.length ∧ A.length < j then [m] else []) ++ sl B (i - A.length - 1) (j - A.length - 1) := by
  by_cases hj : j ≤ A.length
  · rw [if_neg (by omega), Nat.min_eq_left hj, sl_none B (by omega), List.append_nil, List.append_nil]
    unfold sl
    rw [List.take_append_of_le_length hj]
  · have e1 : min j A.length = A.length := by omega
    obtain ⟨q, hq⟩ : ∃ q, j = A.length + (q + 1) := ⟨j - A.length - 1, by omega⟩
    have e2 : j - A.length - 1 = q := by omega
    rw [e1, e2]
    unfold sl
    rw [hq, List.take_length_add_append, List.take_succ_cons, List.take_length, List.drop_append]
    by_cases hi : i ≤ A.length
    · have e3 : i - A.length = 0 := by omega
      rw [if_pos ⟨hi, by omega⟩, e3]
      simp
    · rw [if_neg (by omega), List.drop_eq_nil_of_le (by omega)]
      obtain ⟨p, hp⟩ : ∃ p, i - A.length = p + 1 := ⟨i - A.length - 1, by omega⟩
      rw [hp]
      simp
end
namespace Tr
variable {V S : Type} {J : S → S → S} {z : S}
theorem rows_ne {T : Tr V S} (h : T.isNil = false) : T.rows ≠ [] := by
  cases T with
  | nil => cases h
  | node l k v s r => simp [rows]
theorem rows_nil {T : Tr V S} (h : T.isNil = true) : T.rows = [] := by
  cases T with
  | nil => rfl
  | node l k v s r => cases h
abbrev sums (T : Tr V S) : List S := T.rows.map (·.2.2)
theorem sum_rows (hJ : ∀ a b c, J (J a b) c = J a (J b c)) : ∀ T : Tr V S, T.sum J z = foldP J z T.sums
  | nil => rfl
  | node l k v s r => by
    have hl := sum_rows hJ l
    have hr := sum_rows hJ r
    have e : (node l k v s r).sums = l.sums ++ [s] ++ r.sums := by simp [sums, rows]
    have e1 : (if l.isNil then s else J (l.sum J z) s) = foldP J z (l.sums ++ [s]) := by
      cases hn : l.isNil with
      | true => simp [sums, rows_nil hn, foldP]
      | false => rw [foldP_app hJ (by simpa [sums] using rows_ne hn) (by simp), ← hl]; rfl
    rw [e, sum, e1]
    cases hn : r.isNil with
    | true => simp [sums, rows_nil hn]
    | false => rw [foldP_app hJ (A := l.sums ++ [s]) (B := r.sums) (by simp) (by simpa [sums] using rows_ne hn), ← hr]; rfl
theorem sums_len (T : Tr V S) : T.sums.length = T.size := by rw [List.length_map, rows_len]
theorem pieces_rows (hJ : ∀ a b c, J (J a b) c = J a (J b c)) : ∀ (T : Tr V S) (i j : Int), 0 ≤ i → Alike J z (T.pieces J z i j) (sl T.sums i.toNat j.toNat)
  | nil, i, j, _ => by simp only [pieces, sums, rows, List.map_nil, sl, List.take_nil, List.drop_nil]; exact Alike.refl _
  | node l k v s r, i, j, hi => by
    have hl := pieces_rows hJ l i (min j l.size) hi
    have hr := pieces_rows hJ r (max (i - l.size - 1) 0) (j - l.size - 1) (by omega)
    have hlen := sums_len l
    simp only [pieces]
    split
    · rename_i h
      rw [sl_none _ (by omega)]
      exact Alike.refl _
    · split
      · rename_i h1 h2
        have e : i.toNat = 0 := by omega
        rw [e, sl_all _ (by rw [sums_len]; omega), sum_rows hJ]
        exact alike_one hJ (by simp [sums, rows])
      · have e : (node l k v s r).sums = l.sums ++ s :: r.sums := by simp [sums, rows]
        rw [e, sl_split]
        refine (Alike.app ?_ ?_).app ?_
        · have e1 : min j.toNat l.sums.length = (min j (l.size : Int)).toNat := by omega
          rw [e1]; exact hl
        · have e1 : (i ≤ (l.size : Int) ∧ (l.size : Int) < j) ↔ (i.toNat ≤ l.sums.length ∧ l.sums.length < j.toNat) := by rw [hlen]; omega
          simp only [e1]
          exact Alike.refl _
        · have e1 : i.toNat - l.sums.length - 1 = (max (i - l.size - 1) 0).toNat := by omega
          have e2 : j.toNat - l.sums.length - 1 = (j - l.size - 1).toNat := by omega
          rw [e1, e2]; exact hr
theorem fold_rows (hJ : ∀ a b c, J (J a b) c = J a (J b c)) (T : Tr V S) (i j : Int) : foldP J z (T.pieces J z (max i 0) (min j T.size)) = foldP J z (sl T.sums i.toNat (min j.toNat T.size)) := by
  rw [(pieces_rows hJ T (max i 0) (min j T.size) (by omega)).fold]
  congr 2 <;> omega
end Tr
end Go.Proofs.YtokcgnbjkbhmiaaDoor
