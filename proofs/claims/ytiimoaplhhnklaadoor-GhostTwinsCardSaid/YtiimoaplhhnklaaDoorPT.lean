/- Alarms in their order, as plain data. -/
import Derived.Test.YtiimoaplhhnklaaDoorF1
namespace Go.Proofs.YtiimoaplhhnklaaDoor
set_option linter.unusedSimpArgs false
set_option linter.unusedVariables false

abbrev Nm := Int × Int × Int
abbrev Al := Nm × Int
def cmpAl (a b : Al) : Int := firstNZ [cmpI a.2 b.2, cmpI a.1.1 b.1.1, cmpI a.1.2.1 b.1.2.1, cmpI a.1.2.2 b.1.2.2]
def aLt (a b : Al) : Prop := a.2 < b.2 ∨ (a.2 = b.2 ∧ (a.1.1 < b.1.1 ∨ (a.1.1 = b.1.1 ∧ (a.1.2.1 < b.1.2.1 ∨ (a.1.2.1 = b.1.2.1 ∧ a.1.2.2 < b.1.2.2)))))
instance (a b : Al) : Decidable (aLt a b) := by unfold aLt; infer_instance
theorem al_ext {a b : Al} (h1 : a.2 = b.2) (h2 : a.1.1 = b.1.1) (h3 : a.1.2.1 = b.1.2.1) (h4 : a.1.2.2 = b.1.2.2) : a = b := by
  obtain ⟨⟨a1, a2, a3⟩, a4⟩ := a
  obtain ⟨⟨b1, b2, b3⟩, b4⟩ := b
  simp at *
  exact ⟨⟨h2, h3, h4⟩, h1⟩
theorem cmp_lt (a b : Al) : cmpAl a b < 0 ↔ aLt a b := by
  unfold cmpAl aLt
  simp only [firstNZ, cmpI]
  by_cases h1 : a.2 < b.2
  · simp [h1]
  by_cases h1' : b.2 < a.2
  · simp [h1, h1']; omega
  have e1 : a.2 = b.2 := by omega
  by_cases h2 : a.1.1 < b.1.1
  · simp [h2, e1]
  by_cases h2' : b.1.1 < a.1.1
  · simp [h2, h2', e1]; omega
  have e2 : a.1.1 = b.1.1 := by omega
  by_cases h3 : a.1.2.1 < b.1.2.1
  · simp [h3, e1, e2]
  by_cases h3' : b.1.2.1 < a.1.2.1
  · simp [h3, h3', e1, e2]; omega
  have e3 : a.1.2.1 = b.1.2.1 := by omega
  by_cases h4 : a.1.2.2 < b.1.2.2
  · simp [h4, e1, e2, e3]
  by_cases h4' : b.1.2.2 < a.1.2.2
  · simp [h4, h4', e1, e2, e3]
  · simp [h4, h4', e1, e2, e3]
theorem cmp_range (a b : Al) : cmpAl a b = -1 ∨ cmpAl a b = 0 ∨ cmpAl a b = 1 := by
  unfold cmpAl
  simp only [firstNZ, cmpI]
  repeat' split
  all_goals omega
theorem aLt_irr (a : Al) : ¬ aLt a a := by unfold aLt; omega
theorem aLt_trans {a b c : Al} (h : aLt a b) (k : aLt b c) : aLt a c := by unfold aLt at *; omega
theorem aLt_tri {a b : Al} (h : ¬ aLt a b) (k : ¬ aLt b a) : a = b := by
  unfold aLt at *
  exact al_ext (by omega) (by omega) (by omega) (by omega)
theorem cmp_eq (a b : Al) : cmpAl a b = 0 ↔ a = b := by
  constructor
  · intro h
    unfold cmpAl at h
    simp only [firstNZ, cmpI] at h
    refine al_ext ?_ ?_ ?_ ?_
    all_goals (repeat' split at h) <;> omega
  · rintro rfl
    unfold cmpAl
    simp [firstNZ, cmpI]
def del (n : Nm) (l : List Al) : List Al := l.filter fun x => decide (x.1 ≠ n)
def pos (a : Al) (l : List Al) : Nat := (l.takeWhile fun x => decide (aLt x a)).length
def insA (a : Al) (l : List Al) : List Al := l.take (pos a l) ++ a :: l.drop (pos a l)
def atN (n : Nm) (l : List Al) : Option Int := (l.find? fun x => decide (x.1 = n)).map (·.2)
/-- Alarms in their order, no name twice. -/
structure Ok (l : List Al) : Prop where
  srt : l.Pairwise aLt
  nod : (l.map (·.1)).Nodup
theorem ok_nil : Ok [] := ⟨by simp, by simp⟩
theorem pos_le (a : Al) : ∀ l : List Al, pos a l ≤ l.length
  | [] => by simp [pos]
  | x :: l => by
    have := pos_le a l
    unfold pos at *
    rw [List.takeWhile_cons]
    split <;> simp <;> omega
theorem pos_lt {a : Al} : ∀ {l : List Al} {j : Nat} (h : j < pos a l), aLt (l[j]'(Nat.lt_of_lt_of_le h (pos_le a l))) a
  | [], j, h => by simp [pos] at h
  | x :: l, j, h => by
    unfold pos at h
    rw [List.takeWhile_cons] at h
    split at h
    · rename_i hx
      cases j with
      | zero => simpa using hx
      | succ j => exact pos_lt (l := l) (by simpa [pos] using h)
    · simp at h
theorem pos_ge {a : Al} : ∀ {l : List Al}, (h : pos a l < l.length) → ¬ aLt l[pos a l] a
  | [], h => by simp at h
  | x :: l, h => by
    by_cases hx : aLt x a
    · have e : pos a (x :: l) = pos a l + 1 := by unfold pos; rw [List.takeWhile_cons, if_pos (by simpa using hx)]; rfl
      have ih := pos_ge (a := a) (l := l) (by rw [e] at h; simpa using h)
      simp only [e, List.getElem_cons_succ]
      exact ih
    · have e : pos a (x :: l) = 0 := by unfold pos; rw [List.takeWhile_cons, if_neg (by simpa using hx)]; rfl
      simp only [e, List.getElem_cons_zero]
      exact hx
theorem pos_uniq {a : Al} {l : List Al} {i : Nat} (hi : i ≤ l.length) (h1 : ∀ j, (hj : j < i) → aLt (l[j]'(by omega)) a) (h2 : (h : i < l.length) → ¬ aLt l[i] a) : i = pos a l := by
  rcases Nat.lt_trichotomy i (pos a l) with h | h | h
  · exact absurd (pos_lt h) (h2 (Nat.lt_of_lt_of_le h (pos_le a l)))
  · exact h
  · exact absurd (h1 _ h) (pos_ge (by omega))
theorem mem_del {n : Nm} {l : List Al} {x : Al} : x ∈ del n l ↔ x ∈ l ∧ x.1 ≠ n := by simp [del]
theorem ok_del {n : Nm} {l : List Al} (h : Ok l) : Ok (del n l) :=
  ⟨h.srt.sublist List.filter_sublist, h.nod.sublist (List.filter_sublist.map _)⟩
theorem mem_insA {a x : Al} {l : List Al} : x ∈ insA a l ↔ x = a ∨ x ∈ l := by
  unfold insA
  rw [List.mem_append, List.mem_cons]
  constructor
  · rintro (h | h | h)
    · exact .inr (List.mem_of_mem_take h)
    · exact .inl h
    · exact .inr (List.mem_of_mem_drop h)
  · rintro (h | h)
    · exact .inr (.inl h)
    · rw [← List.take_append_drop (pos a l) l, List.mem_append] at h
      rcases h with h | h
      · exact .inl h
      · exact .inr (.inr h)
theorem ok_insA {a : Al} {l : List Al} (h : Ok l) (hn : ∀ x ∈ l, x.1 ≠ a.1) : Ok (insA a l) := by
  have hs := h.srt
  have hlt : ∀ x ∈ l.take (pos a l), aLt x a := fun x hx => by
    obtain ⟨j, hj, rfl⟩ := List.getElem_of_mem hx
    rw [List.length_take] at hj
    rw [List.getElem_take]
    exact pos_lt (by omega)
  have hge : ∀ x ∈ l.drop (pos a l), aLt a x := fun x hx => by
    obtain ⟨j, hj, rfl⟩ := List.getElem_of_mem hx
    rw [List.length_drop] at hj
    have hp : pos a l < l.length := by omega
    have h0 := pos_ge hp
    have hm := hn _ (List.getElem_mem hp)
    have h1 : aLt a l[pos a l] := by
      by_cases e : aLt a l[pos a l]
      · exact e
      · exact absurd (by rw [aLt_tri h0 e]) hm
    rw [List.getElem_drop]
    by_cases hj0 : j = 0
    · subst hj0; exact h1
    · exact aLt_trans h1 (List.pairwise_iff_getElem.1 hs _ _ hp (by omega) (by omega))
  constructor
  · unfold insA
    refine List.pairwise_append.2 ⟨hs.sublist (List.take_sublist _ _), List.pairwise_cons.2 ⟨hge, hs.sublist (List.drop_sublist _ _)⟩, fun x hx y hy => ?_⟩
    rcases List.mem_cons.1 hy with rfl | hy
    · exact hlt x hx
    · exact aLt_trans (hlt x hx) (hge y hy)
  · have hp : (insA a l).Perm (a :: l) := by
      unfold insA
      refine List.perm_middle.trans ?_
      rw [List.take_append_drop]
    rw [(hp.map (·.1)).nodup_iff, List.map_cons, List.nodup_cons]
    refine ⟨fun hm => ?_, h.nod⟩
    obtain ⟨x, hx, e⟩ := List.mem_map.1 hm
    exact hn x hx e
theorem insA_len (a : Al) (l : List Al) : (insA a l).length = l.length + 1 := by
  unfold insA
  have := pos_le a l
  rw [List.length_append, List.length_cons, List.length_take, List.length_drop]
  omega
theorem del_len_le (n : Nm) (l : List Al) : (del n l).length ≤ l.length := List.length_filter_le _ _
theorem atN_none {n : Nm} {l : List Al} : atN n l = none ↔ ∀ x ∈ l, x.1 ≠ n := by
  unfold atN
  rw [Option.map_eq_none_iff, List.find?_eq_none]
  simp
theorem atN_mem {n : Nm} {l : List Al} {t : Int} (h : atN n l = some t) : (n, t) ∈ l := by
  unfold atN at h
  rw [Option.map_eq_some_iff] at h
  obtain ⟨x, h1, h2⟩ := h
  have h3 := List.find?_some h1
  have h4 := List.mem_of_find?_eq_some h1
  simp at h3
  rw [← h3, ← h2]
  exact h4
theorem atN_some {n : Nm} {l : List Al} (h : Ok l) {t : Int} (hm : (n, t) ∈ l) : atN n l = some t := by
  cases ha : atN n l with
  | none => exact absurd rfl (atN_none.1 ha _ hm)
  | some u =>
    have h1 := atN_mem ha
    have h2 := h.nod
    obtain ⟨i, hi, e1⟩ := List.getElem_of_mem hm
    obtain ⟨j, hj, e2⟩ := List.getElem_of_mem h1
    have : i = j := by
      rcases Nat.lt_trichotomy i j with h3 | h3 | h3
      · have := List.pairwise_iff_getElem.1 h2 i j (by simpa using hi) (by simpa using hj) h3
        simp [e1, e2] at this
      · exact h3
      · have := List.pairwise_iff_getElem.1 h2 j i (by simpa using hj) (by simpa using hi) h3
        simp [e1, e2] at this
    subst this
    rw [e1] at e2
    cases e2
    rfl
theorem atN_del (n m : Nm) (l : List Al) (h : Ok l) : atN m (del n l) = if m = n then none else atN m l := by
  split
  · rename_i e
    subst e
    exact atN_none.2 fun x hx => (mem_del.1 hx).2
  · rename_i hne
    cases ha : atN m l with
    | none => exact atN_none.2 fun x hx => atN_none.1 ha x (mem_del.1 hx).1
    | some t => exact atN_some (ok_del h) (mem_del.2 ⟨atN_mem ha, hne⟩)
theorem atN_insA {a : Al} (m : Nm) {l : List Al} (h : Ok l) (hn : ∀ x ∈ l, x.1 ≠ a.1) : atN m (insA a l) = if m = a.1 then some a.2 else atN m l := by
  have hk := ok_insA h hn
  split
  · rename_i e
    subst e
    exact atN_some hk (mem_insA.2 (.inl rfl))
  · rename_i hne
    cases ha : atN m l with
    | none =>
      refine atN_none.2 fun x hx => ?_
      rcases mem_insA.1 hx with rfl | hx
      · exact fun e => hne e.symm
      · exact atN_none.1 ha x hx
    | some t => exact atN_some hk (mem_insA.2 (.inr (atN_mem ha)))
theorem pos_mem {a : Al} {l : List Al} (h : Ok l) (hm : a ∈ l) : ∃ hp : pos a l < l.length, l[pos a l] = a ∧ l.eraseIdx (pos a l) = del a.1 l := by
  obtain ⟨i, hi, e⟩ := List.getElem_of_mem hm
  have hs := List.pairwise_iff_getElem.1 h.srt
  have hip : i = pos a l := pos_uniq (by omega) (fun j hj => by
    have := hs j i (by omega) hi hj
    rw [e] at this; exact this) (fun h => by rw [e]; exact aLt_irr a)
  subst hip
  refine ⟨hi, e, ?_⟩
  have hnod := List.pairwise_iff_getElem.1 h.nod
  have e1 : l = l.take (pos a l) ++ a :: l.drop (pos a l + 1) := by
    conv => lhs; rw [← List.take_append_drop (pos a l) l, List.drop_eq_getElem_cons hi, e]
  have hf : ∀ x ∈ l.take (pos a l), x.1 ≠ a.1 := fun x hx => by
    obtain ⟨j, hj, rfl⟩ := List.getElem_of_mem hx
    rw [List.length_take] at hj
    rw [List.getElem_take]
    have := hnod j (pos a l) (by simp; omega) (by simpa using hi) (by omega)
    simpa [e] using this
  have hg : ∀ x ∈ l.drop (pos a l + 1), x.1 ≠ a.1 := fun x hx => by
    obtain ⟨j, hj, rfl⟩ := List.getElem_of_mem hx
    rw [List.length_drop] at hj
    rw [List.getElem_drop]
    have := hnod (pos a l) (pos a l + 1 + j) (by simpa using hi) (by simp; omega) (by omega)
    simp [e] at this
    exact fun e => this e.symm
  rw [List.eraseIdx_eq_take_drop_succ]
  conv => rhs; rw [e1]
  unfold del
  rw [List.filter_append, List.filter_cons]
  simp only [ne_eq, not_true_eq_false, decide_false, Bool.false_eq_true, if_false]
  rw [List.filter_eq_self.2 (fun x hx => by simpa using hf x hx), List.filter_eq_self.2 (fun x hx => by simpa using hg x hx)]
theorem del_none {n : Nm} {l : List Al} (h : atN n l = none) : del n l = l := by
  unfold del
  exact List.filter_eq_self.2 fun x hx => by simpa using atN_none.1 h x hx
/-- What Set makes of the alarms. -/
def setA (n : Nm) (t : Int) (l : List Al) : List Al := insA (n, t) (del n l)
theorem ok_setA {n : Nm} {t : Int} {l : List Al} (h : Ok l) : Ok (setA n t l) := ok_insA (ok_del h) fun x hx => (mem_del.1 hx).2
theorem atN_setA {n : Nm} {t : Int} (m : Nm) {l : List Al} (h : Ok l) : atN m (setA n t l) = if m = n then some t else atN m l := by
  unfold setA
  rw [atN_insA m (ok_del h) (fun x hx => (mem_del.1 hx).2), atN_del n m l h]
  split <;> simp [*]
theorem setA_len (n : Nm) (t : Int) (l : List Al) : (setA n t l).length ≤ l.length + 1 := by
  unfold setA
  rw [insA_len]
  have := del_len_le n l
  omega
/-- Two such rows that tell the same of each name are one. -/
theorem ok_uniq {l k : List Al} (hl : Ok l) (hk : Ok k) (h : ∀ n, atN n l = atN n k) : l = k := by
  have hm : ∀ x, x ∈ l ↔ x ∈ k := fun x => by
    constructor
    · intro hx; have := atN_some hl (show (x.1, x.2) ∈ l from hx); rw [h] at this; exact atN_mem this
    · intro hx; have := atN_some hk (show (x.1, x.2) ∈ k from hx); rw [← h] at this; exact atN_mem this
  have nd : ∀ {l : List Al}, l.Pairwise aLt → l.Nodup := fun h => List.Pairwise.imp (fun {a b} h => by rintro rfl; exact aLt_irr a h) h
  have n1 := nd hl.srt
  have n2 := nd hk.srt
  exact ((List.perm_ext_iff_of_nodup n1 n2).2 hm).eq_of_pairwise (fun a b _ _ h1 h2 => absurd (aLt_trans h1 h2) (aLt_irr a)) hl.srt hk.srt
end Go.Proofs.YtiimoaplhhnklaaDoor
