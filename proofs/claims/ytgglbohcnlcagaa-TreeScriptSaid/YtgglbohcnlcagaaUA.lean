/- Rows put in another order: the plain law of TreeTurned. -/
import Derived.Test.YtgglbohcnlcagaaTU
namespace Go.Proofs.Ytgglbohcnlcagaa
set_option linter.unusedSimpArgs false
set_option linter.unusedVariables false

/-- The last one of a key. -/
def lastF (q : ByteArray) : List R1 → Option R1
  | [] => none
  | r :: L => (lastF q L).or (if r.1 = q then some r else none)
def laterKey (k : ByteArray) (L : List R1) : Bool := L.any fun s => s.1.toList == k.toList
theorem laterKey_iff (k : ByteArray) (L : List R1) : laterKey k L = true ↔ ∃ s ∈ L, s.1 = k := by
  unfold laterKey
  rw [List.any_eq_true]
  constructor
  · rintro ⟨s, hs, h⟩; exact ⟨s, hs, ba_ext (by simpa using h)⟩
  · rintro ⟨s, hs, rfl⟩; exact ⟨s, hs, by simp⟩
/-- The last ones of each key. -/
def lastOf : List R1 → List R1
  | [] => []
  | r :: L => if laterKey r.1 L = true then lastOf L else r :: lastOf L
theorem lastF_none {q : ByteArray} : ∀ {L : List R1}, lastF q L = none ↔ ∀ s ∈ L, ¬ s.1 = q
  | [] => by simp [lastF]
  | r :: L => by
    have ih := lastF_none (q := q) (L := L)
    simp only [lastF, Option.or_eq_none_iff, ih, List.mem_cons]
    constructor
    · rintro ⟨h1, h2⟩ s (rfl | hs)
      · intro e; rw [if_pos e] at h2; cases h2
      · exact h1 s hs
    · intro h
      refine ⟨fun s hs => h s (.inr hs), ?_⟩
      rw [if_neg (h r (.inl rfl))]
theorem lastOf_mem {r : R1} : ∀ {L : List R1}, r ∈ lastOf L → r ∈ L
  | [], h => by cases h
  | a :: L, h => by
    simp only [lastOf] at h
    split at h
    · exact List.mem_cons_of_mem _ (lastOf_mem h)
    · rcases List.mem_cons.1 h with rfl | h
      · exact List.mem_cons_self
      · exact List.mem_cons_of_mem _ (lastOf_mem h)
theorem lastF_iff {q : ByteArray} {r : R1} : ∀ {L : List R1}, lastF q L = some r ↔ r ∈ lastOf L ∧ r.1 = q
  | [] => by simp [lastF, lastOf]
  | a :: L => by
    have ih := lastF_iff (q := q) (r := r) (L := L)
    simp only [lastF, lastOf]
    by_cases hk : laterKey a.1 L = true
    · rw [if_pos hk, ← ih]
      obtain ⟨s, hs, hsk⟩ := (laterKey_iff _ _).1 hk
      by_cases hq : a.1 = q
      · have h1 : ¬ lastF q L = none := fun e => lastF_none.1 e s hs (hsk.trans hq)
        obtain ⟨y, hy⟩ := Option.ne_none_iff_exists'.1 h1
        rw [hy]; simp
      · rw [if_neg hq]; simp
    · rw [if_neg hk]
      have hno : ∀ s ∈ L, ¬ s.1 = a.1 := fun s hs e => hk ((laterKey_iff _ _).2 ⟨s, hs, e⟩)
      by_cases hq : a.1 = q
      · have h1 : lastF q L = none := lastF_none.2 fun s hs e => hno s hs (e.trans hq.symm)
        rw [h1, if_pos hq]
        simp only [Option.none_or, Option.some.injEq, List.mem_cons]
        constructor
        · rintro rfl; exact ⟨.inl rfl, hq⟩
        · rintro ⟨h | h, h2⟩
          · exact h.symm
          · exact absurd (h2.trans hq.symm) (hno r (lastOf_mem h))
      · rw [if_neg hq]
        simp only [Option.or_none, ih, List.mem_cons]
        constructor
        · rintro ⟨h1, h2⟩; exact ⟨.inr h1, h2⟩
        · rintro ⟨h | h, h2⟩
          · subst h; exact absurd h2 hq
          · exact ⟨h, h2⟩
def Apart (M : List R1) : Prop := M.Pairwise fun a b => ¬ a.1 = b.1
theorem lastOf_apart : ∀ L : List R1, Apart (lastOf L)
  | [] => List.Pairwise.nil
  | a :: L => by
    simp only [lastOf]
    split
    · exact lastOf_apart L
    · rename_i hk
      refine List.pairwise_cons.2 ⟨fun s hs e => hk ((laterKey_iff _ _).2 ⟨s, lastOf_mem hs, e.symm⟩), lastOf_apart L⟩
theorem lastOf_self : ∀ {M : List R1}, Apart M → lastOf M = M
  | [], _ => rfl
  | a :: M, h => by
    have h' := List.pairwise_cons.1 h
    simp only [lastOf]
    rw [if_neg, lastOf_self h'.2]
    intro e
    obtain ⟨s, hs, hsk⟩ := (laterKey_iff _ _).1 e
    exact h'.1 s hs hsk.symm
theorem apart_perm {A B : List R1} (h : A.Perm B) (hB : Apart B) : Apart A := h.symm.pairwise hB (fun hab e => hab e.symm)
theorem lastF_perm {L M : List R1} (h : M.Perm (lastOf L)) (q : ByteArray) : lastF q M = lastF q L := by
  have hM := apart_perm h (lastOf_apart L)
  have key : ∀ r, lastF q M = some r ↔ lastF q L = some r := fun r => by
    rw [lastF_iff, lastF_iff, lastOf_self hM, h.mem_iff]
  cases h1 : lastF q M with
  | some r => exact ((key r).1 h1).symm
  | none =>
    cases h2 : lastF q L with
    | none => rfl
    | some r => rw [(key r).2 h2] at h1; cases h1
theorem fnd_puts (q : ByteArray) : ∀ (L : List R1) (T : T1), Srt T.rows → fnd q (puts L T).rows = (lastF q L).or (fnd q T.rows)
  | [], T, _ => by simp [puts, lastF]
  | r :: L, T, h => by
    have h1 := fnd_puts q L (T.put r.1 r.2.1 r.2.2) (Tr.put_srt _ _ _ _ h)
    have e : puts (r :: L) T = puts L (T.put r.1 r.2.1 r.2.2) := rfl
    rw [e, h1, Tr.put_rows _ _ _ _ h, fnd_ins q h, lastF]
    by_cases hq : q = r.1
    · rw [if_pos hq, if_pos hq.symm]
      cases lastF q L <;> rfl
    · rw [if_neg hq, if_neg (fun e => hq e.symm)]
      cases lastF q L <;> rfl
theorem puts_srt : ∀ (L : List R1) (T : T1), Srt T.rows → Srt (puts L T).rows
  | [], T, h => h
  | r :: L, T, h => puts_srt L _ (Tr.put_srt _ _ _ _ h)
theorem turned_rows {L M : List R1} (h : M.Perm (lastOf L)) : (puts M (.nil : T1)).rows = (puts L (.nil : T1)).rows := by
  have h0 : Srt (Tr.nil : T1).rows := List.Pairwise.nil
  refine srt_ext (puts_srt M _ h0) (puts_srt L _ h0) fun q => ?_
  rw [fnd_puts q M _ h0, fnd_puts q L _ h0, lastF_perm h]
theorem ins_len {k : ByteArray} {v : Int} {s : Int × Int} : ∀ {L : List R1}, (∀ r ∈ L, ¬ r.1 = k) → (ins k v s L).length = L.length + 1
  | [], _ => rfl
  | a :: L, h => by
    have ih := ins_len (v := v) (s := s) (fun r hr => h r (List.mem_cons_of_mem _ hr) : ∀ r ∈ L, ¬ r.1 = k)
    simp only [ins]
    split
    · simp [ih]
    · rename_i h1
      split
      · simp
      · rename_i h2
        exact absurd (blt_eq h1 h2) (h a List.mem_cons_self)
theorem apart_size : ∀ (M : List R1) (T : T1), Srt T.rows → Apart M → (∀ r ∈ M, ∀ x ∈ T.rows, ¬ x.1 = r.1) → (puts M T).size = T.size + M.length
  | [], T, _, _, _ => rfl
  | r :: M, T, hT, hM, hx => by
    have h' := List.pairwise_cons.1 hM
    have hp := Tr.put_rows r.1 r.2.1 r.2.2 T hT
    have h1 := apart_size M (T.put r.1 r.2.1 r.2.2) (Tr.put_srt _ _ _ _ hT) h'.2 (fun a ha x hxm => by
      rw [hp] at hxm
      rcases ins_mem hxm with rfl | hxm
      · exact h'.1 a ha
      · exact hx a (List.mem_cons_of_mem _ ha) x hxm)
    have h2 : (T.put r.1 r.2.1 r.2.2).size = T.size + 1 := by
      rw [← Tr.rows_len, ← Tr.rows_len, hp]
      exact ins_len (fun x hxm => hx r List.mem_cons_self x hxm)
    have e : puts (r :: M) T = puts M (T.put r.1 r.2.1 r.2.2) := rfl
    rw [e, h1, h2, List.length_cons]
    omega
theorem turned_size {L M : List R1} (h : M.Perm (lastOf L)) : (puts M (.nil : T1)).size = M.length := by
  have := apart_size M .nil List.Pairwise.nil (apart_perm h (lastOf_apart L)) (fun r _ x hx => by cases hx)
  simpa [Tr.size] using this
theorem same_size {A B : T1} (h : A.rows = B.rows) : A.size = B.size := by rw [← Tr.rows_len, ← Tr.rows_len, h]
theorem same_at {A B : T1} (h : A.rows = B.rows) (i : Int) : A.at_ i = B.at_ i := by rw [Tr.at_rows, Tr.at_rows, h]
theorem same_mf {A B : T1} (h : A.rows = B.rows) (i j : Int) : mf A i j = mf B i j := by unfold mf Tr.sums; rw [h, same_size h]
theorem lastOf_step {L : List R1} {m : Nat} (hm : m < L.length) : lastOf (L.drop m) = if laterKey L[m].1 (L.drop (m + 1)) = true then lastOf (L.drop (m + 1)) else L[m] :: lastOf (L.drop (m + 1)) := by
  rw [List.drop_eq_getElem_cons hm]; rfl
theorem later_step {D : List R1} {k : ByteArray} {q : Nat} (hq : q < D.length) : laterKey k (D.take (q + 1)) = (laterKey k (D.take q) || D[q].1.toList == k.toList) := by
  unfold laterKey
  rw [List.take_succ_eq_append_getElem hq, List.any_append]
  simp
theorem lastOf_in {L : List R1} (h : ∀ r ∈ L, InM r.2.2) {M : List R1} (hM : M.Perm (lastOf L)) : ∀ r ∈ M, InM r.2.2 := fun r hr => h r (lastOf_mem (hM.mem_iff.1 hr))
theorem lastOf_len : ∀ L : List R1, (lastOf L).length ≤ L.length
  | [] => Nat.le_refl _
  | a :: L => by
    have ih := lastOf_len L
    simp only [lastOf]
    split
    · simp only [List.length_cons]; omega
    · simp only [List.length_cons]; omega
end Go.Proofs.Ytgglbohcnlcagaa
