/- Alarms in their order, as plain data. Maps whose keys are structs: a look-up, a store, a delete, told by the list of the entries. Over any program. Timers: how two alarms, two names compare, in the program and in the document. -/
import Derived.Test.YtokcgnbjkbhmiaaDoorMF1
import Derived.Test.YtokcgnbjkbhmiaaDoorMTA
import Derived.MapKept
import Derived.Laws.StructEq
import Derived.Test.YtokcgnbjkbhmiaaDoorRowT
import Derived.Maps.AppendAt
namespace Go.Proofs.YtokcgnbjkbhmiaaDoor
set_option linter.unusedSimpArgs false
set_option linter.unusedVariables false

abbrev Nm := Int × Int × Int
abbrev Al := Nm × Int
def cmpAl (a b : Al) : Int := firstNZ [cmpI a.2 b.2, cmpI a.1.1 b.1.1, cmpI a.1.2.1 b.1.2.1, cmpI a.1.2.2 b.1.2.2]
def aLt (a b : Al) : Prop := a.2 < b.2 ∨ (a.2 = b.2 ∧ (a.1.1 < b.1.1 ∨ (a.1.1 = b.1.1 ∧ (a.1.2.1 < b.1.2.1 ∨ (a.1.2.1 = b.1.2.1 ∧ a.1.2.2 < b.1.2.2)))))
instance (a b : Al) : Decidable (aLt a b) := by unfold aLt; infer_instance
theorem al_ext {a b : Al} (h1 : a.2 = b.2) (h2 : a.1.1 = b.1.1) (h3 : a.1.2.1 = b.1.2.1) (h4 : a.1.2.2 = b.1.2.2) : a = b := by
  obtain ⟨⟨a1, a2, a3⟩, a4⟩ := a
  obtain ⟨⟨b1, b2, b3⟩, b4⟩ := b
  simp at *
  exact ⟨⟨h2, h3, h4⟩, h1⟩
theorem cmp_lt (a b : Al) : cmpAl a b < 0 ↔ aLt a b := by
  unfold cmpAl aLt
  simp only [firstNZ, cmpI]
  by_cases h1 : a.2 < b.2
  · simp [h1]
  by_cases h1' : b.2 < a.2
  · simp [h1, h1']; omega
  have e1 : a.2 = b.2 := by omega
  by_cases h2 : a.1.1 < b.1.1
  · simp [h2, e1]
  by_cases h2' : b.1.1 < a.1.1
  · simp [h2, h2', e1]; omega
  have e2 : a.1.1 = b.1.1 := by omega
  by_cases h3 : a.1.2.1 < b.1.2.1
  · simp [h3, e1, e2]
  by_cases h3' : b.1.2.1 < a.1.2.1
  · simp [h3, h3', e1, e2]; omega
  have e3 : a.1.2.1 = b.1.2.1 := by omega
  by_cases h4 : a.1.2.2 < b.1.2.2
  · simp [h4, e1, e2, e3]
  by_cases h4' : b.1.2.2 < a.1.2.2
  · simp [h4, h4', e1, e2, e3]
  · simp [h4, h4', e1, e2, e3]
theorem cmp_range (a b : Al) : cmpAl a b = -1 ∨ cmpAl a b = 0 ∨ cmpAl a b = 1 := by
  unfold cmpAl
  simp only [firstNZ, cmpI]
  repeat' split
  all_goals omega
theorem aLt_irr (a : Al) : ¬ aLt a a := by unfold aLt; omega
theorem aLt_trans {a b c : Al} (h : aLt a b) (k : aLt b c) : aLt a c := by unfold aLt at *; omega
theorem aLt_tri {a b : Al} (h : ¬ aLt a b) (k : ¬ aLt b a) : a = b := by
  unfold aLt at *
  exact al_ext (by omega) (by omega) (by omega) (by omega)
theorem cmp_eq (a b : Al) : cmpAl a b = 0 ↔ a = b := by
  constructor
  · intro h
    unfold cmpAl at h
    simp only [firstNZ, cmpI] at h
    refine al_ext ?_ ?_ ?_ ?_
    all_goals (repeat' split at h) <;> omega
  · rintro rfl
    unfold cmpAl
    simp [firstNZ, cmpI]
def del (n : Nm) (l : List Al) : List Al := l.filter fun x => decide (x.1 ≠ n)
def pos (a : Al) (l : List Al) : Nat := (l.takeWhile fun x => decide (aLt x a)).length
def insA (a : Al) (l : List Al) : List Al := l.take (pos a l) ++ a :: l.drop (pos a l)
def atN (n : Nm) (l : List Al) : Option Int := (l.find? fun x => decide (x.1 = n)).map (·.2)
/-- Alarms in their order, no name twice. -/
structure Ok (l : List Al) : Prop where
  srt : l.Pairwise aLt
  nod : (l.map (·.1)).Nodup
theorem ok_nil : Ok [] := ⟨by simp, by simp⟩
theorem pos_le (a : Al) : ∀ l : List Al, pos a l ≤ l.length
  | [] => by simp [pos]
  | x :: l => by
    have := pos_le a l
    unfold pos at *
    rw [List.takeWhile_cons]
    split <;> simp <;> omega
theorem pos_lt {a : Al} : ∀ {l : List Al} {j : Nat} (h : j < pos a l), aLt (l[j]'(Nat.lt_of_lt_of_le h (pos_le a l))) a
  | [], j, h => by simp [pos] at h
  | x :: l, j, h => by
    unfold pos at h
    rw [List.takeWhile_cons] at h
    split at h
    · rename_i hx
      cases j with
      | zero => simpa using hx
      | succ j => exact pos_lt (l := l) (by simpa [pos] using h)
    · simp at h
theorem pos_ge {a : Al} : ∀ {l : List Al}, (h : pos a l < l.length) → ¬ aLt l[pos a l] a
  | [], h => by simp at h
  | x :: l, h => by
    by_cases hx : aLt x a
    · have e : pos a (x :: l) = pos a l + 1 := by unfold pos; rw [List.takeWhile_cons, if_pos (by simpa using hx)]; rfl
      have ih := pos_ge (a := a) (l := l) (by rw [e] at h; simpa using h)
      simp only [e, List.getElem_cons_succ]
      exact ih
    · have e : pos a (x :: l) = 0 := by unfold pos; rw [List.takeWhile_cons, if_neg (by simpa using hx)]; rfl
      simp only [e, List.getElem_cons_zero]
      exact hx
theorem pos_uniq {a : Al} {l : List Al} {i : Nat} (hi : i ≤ l.length) (h1 : ∀ j, (hj : j < i) → aLt (l[j]'(by omega)) a) (h2 : (h : i < l.length) → ¬ aLt l[i] a) : i = pos a l := by
  rcases Nat.lt_trichotomy i (pos a l) with h | h | h
  · exact absurd (pos_lt h) (h2 (Nat.lt_of_lt_of_le h (pos_le a l)))
  · exact h
  · exact absurd (h1 _ h) (pos_ge (by omega))
theorem mem_del {n : Nm} {l : List Al} {x : Al} : x ∈ del n l ↔ x ∈ l ∧ x.1 ≠ n := by simp [del]
theorem ok_del {n : Nm} {l : List Al} (h : Ok l) : Ok (del n l) :=
  ⟨h.srt.sublist List.filter_sublist, h.nod.sublist (List.filter_sublist.map _)⟩
theorem mem_insA {a x : Al} {l : List Al} : x ∈ insA a l ↔ x = a ∨ x ∈ l := by
  unfold insA
  rw [List.mem_append, List.mem_cons]
  constructor
  · rintro (h | h | h)
    · exact .inr (List.mem_of_mem_take h)
    · exact .inl h
    · exact .inr (List.mem_of_mem_drop h)
  · rintro (h | h)
    · exact .inr (.inl h)
    · rw [← List.take_append_drop (pos a l) l, List.mem_append] at h
      rcases h with h | h
      · exact .inl h
      · exact .inr (.inr h)
theorem ok_insA {a : Al} {l : List Al} (h : Ok l) (hn : ∀ x ∈ l, x.1 ≠ a.1) : Ok (insA a l) := by
  have hs := h.srt
  have hlt : ∀ x ∈ l.take (pos a l), aLt x a := fun x hx => by
    obtain ⟨j, hj, rfl⟩ := List.getElem_of_mem hx
    rw [List.length_take] at hj
    rw [List.getElem_take]
    exact pos_lt (by omega)
  have hge : ∀ x ∈ l.drop (pos a l), aLt a x := fun x hx => by
    obtain ⟨j, hj, rfl⟩ := List.getElem_of_mem hx
    rw [List.length_drop] at hj
    have hp : pos a l < l.length := by omega
    have h0 := pos_ge hp
    have hm := hn _ (List.getElem_mem hp)
    have h1 : aLt a l[pos a l] := by
      by_cases e : aLt a l[pos a l]
      · exact e
      · exact absurd (by rw [aLt_tri h0 e]) hm
    rw [List.getElem_drop]
    by_cases hj0 : j = 0
    · subst hj0; exact h1
    · exact aLt_trans h1 (List.pairwise_iff_getElem.1 hs _ _ hp (by omega) (by omega))
  constructor
  · unfold insA
    refine List.pairwise_append.2 ⟨hs.sublist (List.take_sublist _ _), List.pairwise_cons.2 ⟨hge, hs.sublist (List.drop_sublist _ _)⟩, fun x hx y hy => ?_⟩
    rcases List.mem_cons.1 hy with rfl | hy
    · exact hlt x hx
    · exact aLt_trans (hlt x hx) (hge y hy)
  · have hp : (insA a l).Perm (a :: l) := by
      unfold insA
      refine List.perm_middle.trans ?_
      rw [List.take_append_drop]
    rw [(hp.map (·.1)).nodup_iff, List.map_cons, List.nodup_cons]
    refine ⟨fun hm => ?_, h.nod⟩
    obtain ⟨x, hx, e⟩ := List.mem_map.1 hm
    exact hn x hx e
theorem insA_len (a : Al) (l : List Al) : (insA a l).length = l.length + 1 := by
  unfold insA
  have := pos_le a l
  rw [List.length_append, List.length_cons, List.length_take, List.length_drop]
  omega
theorem del_len_le (n : Nm) (l : List Al) : (del n l).length ≤ l.length := List.length_filter_le _ _
theorem atN_none {n : Nm} {l : List Al} : atN n l = none ↔ ∀ x ∈ l, x.1 ≠ n := by
  unfold atN
  rw [Option.map_eq_none_iff, List.find?_eq_none]
  simp
theorem atN_mem {n : Nm} {l : List Al} {t : Int} (h : atN n l = some t) : (n, t) ∈ l := by
  unfold atN at h
  rw [Option.map_eq_some_iff] at h
  obtain ⟨x, h1, h2⟩ := h
  have h3 := List.find?_some h1
  have h4 := List.mem_of_find?_eq_some h1
  simp at h3
  rw [← h3, ← h2]
  exact h4
theorem atN_some {n : Nm} {l : List Al} (h : Ok l) {t : Int} (hm : (n, t) ∈ l) : atN n l = some t := by
  cases ha : atN n l with
  | none => exact absurd rfl (atN_none.1 ha _ hm)
  | some u =>
    have h1 := atN_mem ha
    have h2 := h.nod
    obtain ⟨i, hi, e1⟩ := List.getElem_of_mem hm
    obtain ⟨j, hj, e2⟩ := List.getElem_of_mem h1
    have : i = j := by
      rcases Nat.lt_trichotomy i j with h3 | h3 | h3
      · have := List.pairwise_iff_getElem.1 h2 i j (by simpa using hi) (by simpa using hj) h3
        simp [e1, e2] at this
      · exact h3
      · have := List.pairwise_iff_getElem.1 h2 j i (by simpa using hj) (by simpa using hi) h3
        simp [e1, e2] at this
    subst this
    rw [e1] at e2
    cases e2
    rfl
theorem atN_del (n m : Nm) (l : List Al) (h : Ok l) : atN m (del n l) = if m = n then none else atN m l := by
  split
  · rename_i e
    subst e
    exact atN_none.2 fun x hx => (mem_del.1 hx).2
  · rename_i hne
    cases ha : atN m l with
    | none => exact atN_none.2 fun x hx => atN_none.1 ha x (mem_del.1 hx).1
    | some t => exact atN_some (ok_del h) (mem_del.2 ⟨atN_mem ha, hne⟩)
theorem atN_insA {a : Al} (m : Nm) {l : List Al} (h : Ok l) (hn : ∀ x ∈ l, x.1 ≠ a.1) : atN m (insA a l) = if m = a.1 then some a.2 else atN m l := by
  have hk := ok_insA h hn
  split
  · rename_i e
    subst e
    exact atN_some hk (mem_insA.2 (.inl rfl))
  · rename_i hne
    cases ha : atN m l with
    | none =>
      refine atN_none.2 fun x hx => ?_
      rcases mem_insA.1 hx with rfl | hx
      · exact fun e => hne e.symm
      · exact atN_none.1 ha x hx
    | some t => exact atN_some hk (mem_insA.2 (.inr (atN_mem ha)))
theorem pos_mem {a : Al} {l : List Al} (h : Ok l) (hm : a ∈ l) : ∃ hp : pos a l < l.length, l[pos a l] = a ∧ l.eraseIdx (pos a l) = del a.1 l := by
  obtain ⟨i, hi, e⟩ := List.getElem_of_mem hm
  have hs := List.pairwise_iff_getElem.1 h.srt
  have hip : i = pos a l := pos_uniq (by omega) (fun j hj => by
    have := hs j i (by omega) hi hj
    rw [e] at this; exact this) (fun h => by rw [e]; exact aLt_irr a)
  subst hip
  refine ⟨hi, e, ?_⟩
  have hnod := List.pairwise_iff_getElem.1 h.nod
  have e1 : l = l.take (pos a l) ++ a :: l.drop (pos a l + 1) := by
    conv => lhs; rw [← List.take_append_drop (pos a l) l, List.drop_eq_getElem_cons hi, e]
  have hf : ∀ x ∈ l.take (pos a l), x.1 ≠ a.1 := fun x hx => by
    obtain ⟨j, hj, rfl⟩ := List.getElem_of_mem hx
    rw [List.length_take] at hj
    rw [List.getElem_take]
    have := hnod j (pos a l) (by simp; omega) (by simpa using hi) (by omega)
    simpa [e] using this
  have hg : ∀ x ∈ l.drop (pos a l + 1), x.1 ≠ a.1 := fun x hx => by
    obtain ⟨j, hj, rfl⟩ := List.getElem_of_mem hx
    rw [List.length_drop] at hj
    rw [List.getElem_drop]
    have := hnod (pos a l) (pos a l + 1 + j) (by simpa using hi) (by simp; omega) (by omega)
    simp [e] at this
    exact fun e => this e.symm
  rw [List.eraseIdx_eq_take_drop_succ]
  conv => rhs; rw [e1]
  unfold del
  rw [List.filter_append, List.filter_cons]
  simp only [ne_eq, not_true_eq_false, decide_false, Bool.false_eq_true, if_false]
  rw [List.filter_eq_self.2 (fun x hx => by simpa using hf x hx), List.filter_eq_self.2 (fun x hx => by simpa using hg x hx)]
theorem del_none {n : Nm} {l : List Al} (h : atN n l = none) : del n l = l := by
  unfold del
  exact List.filter_eq_self.2 fun x hx => by simpa using atN_none.1 h x hx
/-- What Set makes of the alarms. -/
def setA (n : Nm) (t : Int) (l : List Al) : List Al := insA (n, t) (del n l)
theorem ok_setA {n : Nm} {t : Int} {l : List Al} (h : Ok l) : Ok (setA n t l) := ok_insA (ok_del h) fun x hx => (mem_del.1 hx).2
theorem atN_setA {n : Nm} {t : Int} (m : Nm) {l : List Al} (h : Ok l) : atN m (setA n t l) = if m = n then some t else atN m l := by
  unfold setA
  rw [atN_insA m (ok_del h) (fun x hx => (mem_del.1 hx).2), atN_del n m l h]
  split <;> simp [*]
theorem setA_len (n : Nm) (t : Int) (l : List Al) : (setA n t l).length ≤ l.length + 1 := by
  unfold setA
  rw [insA_len]
  have := del_len_le n l
  omega
/-- Two such rows that tell the same of each name are one. -/
theorem ok_uniq {l k : List Al} (hl : Ok l) (hk : Ok k) (h : ∀ n, atN n l = atN n k) : l = k := by
  have hm : ∀ x, x ∈ l ↔ x ∈ k := fun x => by
    constructor
    · intro hx; have := atN_some hl (show (x.1, x.2) ∈ l from hx); rw [h] at this; exact atN_mem this
    · intro hx; have := atN_some hk (show (x.1, x.2) ∈ k from hx); rw [← h] at this; exact atN_mem this
  have nd : ∀ {l : List Al}, l.Pairwise aLt → l.Nodup := fun h => List.Pairwise.imp (fun {a b} h => by rintro rfl; exact aLt_irr a h) h
  have n1 := nd hl.srt
  have n2 := nd hk.srt
  exact ((List.perm_ext_iff_of_nodup n1 n2).2 hm).eq_of_pairwise (fun a b _ _ h1 h2 => absurd (aLt_trans h1 h2) (aLt_irr a)) hl.srt hk.srt
end Go.Proofs.YtokcgnbjkbhmiaaDoor
namespace Go.Proofs.YtokcgnbjkbhmiaaDoor
open Go.RowKit
set_option linter.unusedSimpArgs false
set_option linter.unusedVariables false

section
variable {α β : Type} [DecidableEq α]
def mget (a : α) : List (α × β) → Option β
  | [] => none
  | p :: M => if a = p.1 then some p.2 else mget a M
def mset (a : α) (v : β) : List (α × β) → List (α × β)
  | [] => [(a, v)]
  | p :: M => if a = p.1 then (p.1, v) :: M else p :: mset a v M
def mdel (a : α) : List (α × β) → List (α × β)
  | [] => []
  | p :: M => if a = p.1 then M else p :: mdel a M
def midx (a : α) : List (α × β) → Option Nat
  | [] => none
  | p :: M => if a = p.1 then some 0 else (midx a M).map (· + 1)
theorem midx_none {a : α} : ∀ {M : List (α × β)}, midx a M = none → mget a M = none ∧ (∀ v, mset a v M = M ++ [(a, v)]) ∧ mdel a M = M
  | [], _ => ⟨rfl, fun _ => rfl, rfl⟩
  | p :: M, h => by
    unfold midx at h
    split at h
    · cases h
    · rename_i hn
      have ih := midx_none (M := M) (by cases hm : midx a M with | none => rfl | some i => rw [hm] at h; cases h)
      exact ⟨by unfold mget; rw [if_neg hn]; exact ih.1, fun v => by unfold mset; rw [if_neg hn, ih.2.1 v]; rfl, by unfold mdel; rw [if_neg hn, ih.2.2]⟩
theorem midx_some {a : α} : ∀ {M : List (α × β)} {i : Nat}, midx a M = some i → ∃ h : i < M.length, M[i].1 = a ∧ mget a M = some M[i].2 ∧ (∀ v, mset a v M = M.set i (a, v)) ∧ mdel a M = M.eraseIdx i
  | [], i, h => by cases h
  | p :: M, i, h => by
    unfold midx at h
    split at h
    · rename_i hp
      cases h
      refine ⟨by simp, hp.symm, by unfold mget; rw [if_pos hp]; rfl, fun v => by unfold mset; rw [if_pos hp, ← hp]; rfl, by unfold mdel; rw [if_pos hp]; rfl⟩
    · rename_i hn
      cases hm : midx a M with
      | none => rw [hm] at h; cases h
      | some j =>
        rw [hm] at h
        cases h
        obtain ⟨hl, h1, h2, h3, h4⟩ := midx_some hm
        refine ⟨by simpa using hl, by simpa using h1, by unfold mget; rw [if_neg hn, h2]; simp, fun v => by unfold mset; rw [if_neg hn, h3 v]; rfl, by unfold mdel; rw [if_neg hn, h4]; rfl⟩
theorem map_erase {γ δ : Type} (f : γ → δ) : ∀ (l : List γ) (i : Nat), (l.eraseIdx i).map f = (l.map f).eraseIdx i
  | [], _ => rfl
  | _ :: _, 0 => rfl
  | a :: l, i + 1 => by simp [map_erase f l i]
/-- What the model asks of a key. -/
structure KeyOK (P : Program) (k : TypeId) (ek : α → Value) : Prop where
  chk : ∀ b a w, (Instr.checkKey b 10000 k (ek a)).run P w = .ok () w
  eql : ∀ a b w, (Op.equal k (ek a) (ek b)).run P w = .ok (decide (a = b)) w
  now : ∃ d, P.underlying k = some d ∧ ∀ a b, Instr.sameNow d (ek a) (ek b) = none
  bits : ∀ a, Instr.sameBits 10000 (ek a) (ek a) = true
/-- The entries of a map, in the order in which they were laid in. -/
def MapAt (ek : α → Value) (ev : β → Value) (w : World) (b : Nat) (M : List (α × β)) : Prop :=
  ∃ es clock, w.heap[b]? = some (.map es clock) ∧ es.toList.map (fun e => (e.key, e.val)) = M.map fun p => (ek p.1, ev p.2)
variable {P : Program} {k : TypeId} {ek : α → Value} {ev : β → Value}
theorem run_findAsking_k (hk : KeyOK P k ek) (a : α) (w : World) : ∀ (es : List MapEntry) (M : List (α × β)) (i : Nat), es.map (fun e => (e.key, e.val)) = M.map (fun p => (ek p.1, ev p.2)) →
    (Instr.findAsking k (ek a) es i).run P w = .ok ((midx a M).bind fun j => (M[j]?).map fun p => (i + j, ev p.2)) w
  | [], [], i, _ => by simp [Instr.findAsking, midx]
  | [], _ :: _, _, h => by simp at h
  | _ :: _, [], _, h => by simp at h
  | e :: es, p :: M, i, h => by
    simp only [List.map_cons, List.cons.injEq, Prod.mk.injEq] at h
    obtain ⟨⟨h1, h2⟩, h3⟩ := h
    have ih := run_findAsking_k hk a w es M (i + 1) h3
    have he := hk.eql a p.1 w
    rw [← h1] at he
    by_cases hp : a = p.1
    · rw [decide_eq_true hp] at he
      have e1 : midx a (p :: M) = some 0 := by simp only [midx, if_pos hp]
      rw [e1]
      simp [Instr.findAsking, he, h2]
    · rw [decide_eq_false hp] at he
      simp only [Instr.findAsking, Sem.run_bind, he, Result.andThen_ok, Bool.false_eq_true, if_false, ih]
      have e1 : midx a (p :: M) = (midx a M).map (· + 1) := by simp only [midx, if_neg hp]
      rw [e1]
      cases hm : midx a M with
      | none => rfl
      | some j => simp [Nat.add_assoc, Nat.add_comm 1 j]
theorem run_findKey_k (hk : KeyOK P k ek) (a : α) (w : World) {es : List MapEntry} {M : List (α × β)} (h : es.map (fun e => (e.key, e.val)) = M.map (fun p => (ek p.1, ev p.2))) :
    (Instr.findKey k (ek a) es).run P w = .ok ((midx a M).bind fun j => (M[j]?).map fun p => (j, ev p.2)) w := by
  obtain ⟨d, h1, h2⟩ := hk.now
  have h3 := run_findAsking_k hk a w es M 0 h
  simp only [Nat.zero_add] at h3
  unfold Instr.findKey
  simp only [Sem.run_bind, run_underlying h1, Result.andThen_ok]
  match es, M, h with
  | [], [], _ => simp [Instr.findNow, midx]
  | [], _ :: _, h => simp at h
  | _ :: _, [], h => simp at h
  | e :: es, p :: M, h =>
    simp only [List.map_cons, List.cons.injEq, Prod.mk.injEq] at h
    have h4 := h2 a p.1
    rw [← h.1.1] at h4
    simp only [Instr.findNow, h4]
    exact h3
theorem map_lookup (hk : KeyOK P k ek) {t e : TypeId} (ht : P.underlying t = some (.map k e)) {w : World} {b : Nat} {M : List (α × β)} (h : MapAt ek ev w b M) {z : Value} (hz : (zeroValue e).run P w = .ok z w) (a : α) (c : Bool) :
    (Instr.lookup t (.map (some b)) (ek a) c).run P w = .ok (if c then .tuple #[((mget a M).map ev).getD z, .bool (mget a M).isSome] else ((mget a M).map ev).getD z) w := by
  obtain ⟨es, clock, h1, h2⟩ := h
  have h3 := run_findKey_k hk a w h2
  unfold Instr.lookup
  simp only [Sem.run_bind, run_underlying ht, Result.andThen_ok, MapKept.run_getObj_map h1, hk.chk, h3, Sem.run_pure]
  cases hm : midx a M with
  | none =>
    obtain ⟨e1, -, -⟩ := midx_none hm
    simp [e1, hz]
  | some j =>
    obtain ⟨hl, -, e1, -, -⟩ := midx_some hm
    simp [e1, hl]
theorem map_lookup_nil (hk : KeyOK P k ek) {t e : TypeId} (ht : P.underlying t = some (.map k e)) {w : World} {z : Value} (hz : (zeroValue e).run P w = .ok z w) (a : α) (c : Bool) :
    (Instr.lookup t (.map none) (ek a) c).run P w = .ok (if c then .tuple #[z, .bool false] else z) w := by
  have h3 := run_findKey_k (ev := fun (_ : Unit) => Value.bool true) hk a w (es := []) (M := []) rfl
  unfold Instr.lookup
  simp only [Sem.run_bind, run_underlying ht, Result.andThen_ok, hk.chk, Sem.run_pure]
  have : (Instr.findKey k (ek a) #[].toList).run P w = .ok none w := by simpa [midx] using h3
  simp [this, hz]
def wset (w : World) (b : Nat) (o : Obj) : World := { w with heap := w.heap.setIfInBounds b o }
theorem wset_xl {w : World} {b : Nat} {o : Obj} : Xl [b] w (wset w b o) := ⟨rfl, rfl, rfl, by simp [wset], fun k hk hn => by
  have : b ≠ k := fun e => hn (by simp [e])
  simp [wset, Array.getElem?_setIfInBounds_ne this]⟩
theorem wset_get {w : World} {b : Nat} {o o' : Obj} (h : w.heap[b]? = some o) : (wset w b o').heap[b]? = some o' := by
  have hb := (Array.getElem?_eq_some_iff.1 h).1
  simp [wset, Array.getElem?_setIfInBounds_self, hb]
theorem map_store (hk : KeyOK P k ek) {t e : TypeId} (ht : P.underlying t = some (.map k e)) {w : World} {b : Nat} {M : List (α × β)} (h : MapAt ek ev w b M) (a : α) (v : β) :
    ∃ w', (Instr.mapUpdate t (.map (some b)) (ek a) (ev v)).run P w = .ok () w' ∧ MapAt ek ev w' b (mset a v M) ∧ Xl [b] w w' := by
  obtain ⟨es, clock, h1, h2⟩ := h
  have h3 := run_findKey_k hk a w h2
  have hlen : es.size = M.length := by have := congrArg List.length h2; simpa using this
  cases hm : midx a M with
  | none =>
    obtain ⟨-, e1, -⟩ := midx_none hm
    rw [hm] at h3
    simp only [Option.bind_none] at h3
    refine ⟨wset w b (.map (es.push { key := ek a, val := ev v, born := clock }) (clock + 1)), ?_, ⟨_, _, wset_get h1, ?_⟩, wset_xl⟩
    · simp [Instr.mapUpdate, run_underlying ht, MapKept.run_getObj_map h1, hk.chk, h3, MapKept.run_setObj_map _ h1, wset]
    · rw [e1 v]; simp [h2]
  | some j =>
    obtain ⟨hl, hk1, -, e1, -⟩ := midx_some hm
    rw [hm] at h3
    simp only [Option.bind_some, List.getElem?_eq_getElem hl, Option.map_some] at h3
    have hj : j < es.size := by rw [hlen]; exact hl
    have hold : es[j].key = ek a := by
      have := congrArg (fun l => l[j]?) h2
      simp [List.getElem?_map, hl, hj] at this
      rw [this.1, hk1]
    have hst : (Instr.keyThatStays (ek a) (ek a)).run P w = .ok (ek a) w := by unfold Instr.keyThatStays; rw [if_pos (hk.bits a)]; simp
    refine ⟨wset w b (.map (es.modify j fun e => { e with key := ek a, val := ev v }) clock), ?_, ⟨_, _, wset_get h1, ?_⟩, wset_xl⟩
    · simp [Instr.mapUpdate, run_underlying ht, MapKept.run_getObj_map h1, hk.chk, h3, hj, hold, hst, MapKept.run_setObj_map _ h1, wset]
    · rw [e1 v]
      apply List.ext_getElem?
      intro i
      have hi := congrArg (fun l => l[i]?) h2
      simp only [List.getElem?_map, Array.getElem?_toList, Array.getElem?_modify, List.getElem?_set] at hi ⊢
      by_cases hij : j = i
      · subst hij
        simp [hj, hl]
      · simp [hij]
        exact hi
theorem map_delete (hk : KeyOK P k ek) {t e : TypeId} (ht : P.underlying t = some (.map k e)) {w : World} {b : Nat} {M : List (α × β)} (h : MapAt ek ev w b M) (a : α) (ty : TypeId) :
    ∃ w', (Builtin.delete_ #[t, k] ty #[.map (some b), ek a]).run P w = .ok (.tuple #[]) w' ∧ MapAt ek ev w' b (mdel a M) ∧ Xl [b] w w' := by
  obtain ⟨es, clock, h1, h2⟩ := h
  have h3 := run_findKey_k hk a w h2
  have hlen : es.size = M.length := by have := congrArg List.length h2; simpa using this
  cases hm : midx a M with
  | none =>
    obtain ⟨-, -, e1⟩ := midx_none hm
    rw [hm] at h3
    simp only [Option.bind_none] at h3
    refine ⟨wset w b (.map es clock), ?_, ⟨_, _, wset_get h1, by rw [e1]; exact h2⟩, wset_xl⟩
    simp [Builtin.delete_, run_underlying ht, MapKept.run_getObj_map h1, hk.chk, h3, MapKept.run_setObj_map _ h1, wset]
  | some j =>
    obtain ⟨hl, hk1, -, -, e1⟩ := midx_some hm
    rw [hm] at h3
    simp only [Option.bind_some, List.getElem?_eq_getElem hl, Option.map_some] at h3
    have hj : j < es.size := by rw [hlen]; exact hl
    refine ⟨wset w b (.map (es.eraseIdxIfInBounds j) clock), ?_, ⟨_, _, wset_get h1, ?_⟩, wset_xl⟩
    · simp [Builtin.delete_, run_underlying ht, MapKept.run_getObj_map h1, hk.chk, h3, MapKept.run_setObj_map _ h1, wset]
    · rw [e1]
      have : (es.eraseIdxIfInBounds j).toList = es.toList.eraseIdx j := by
        unfold Array.eraseIdxIfInBounds
        rw [dif_pos hj, Array.toList_eraseIdx]
      rw [this, map_erase, h2, map_erase]
end
end Go.Proofs.YtokcgnbjkbhmiaaDoor
namespace Go.Proofs.YtokcgnbjkbhmiaaDoor
open Go.RowKit
set_option maxHeartbeats 2000000
set_option maxRecDepth 100000
set_option linter.unusedSimpArgs false
set_option linter.unusedVariables false
theorem firstNZ_drop (xs : List Int) (k : Nat) (h : k < xs.length) : firstNZ (xs.drop k) = if xs.getD k 0 = 0 then firstNZ (xs.drop (k+1)) else xs.getD k 0 := by
  rw [List.drop_eq_getElem_cons h]; simp [firstNZ, List.getD_eq_getElem?_getD, h]
theorem cmpOr_any (b off cap : Nat) (xs : List Int) (w : World) (hlen : xs.length ≤ 1000) (hc : ∀ i, i < xs.length → w.cell? ⟨b, off+i, none⟩ = some (.int .i64 (xs.getD i 0))) :
    Calls Tryd.prog 132 #[.slice (some ⟨b, off, none⟩) xs.length cap] w fun e w' => e = .returned (.int .i64 (firstNZ xs)) ∧ w = w' := by
  go_enter Tryd.func132, Tryd.ntmps132
  go_wp2
  go_loop [8] (fun i => ∃ k : Nat, k ≤ xs.length ∧ i = .int .i64 k ∧ firstNZ xs = firstNZ (xs.drop k)) (fun i => xs.length - (intOf i).toNat)
  case atStart => exact ⟨0, Nat.zero_le _, rfl, by simp⟩
  case round =>
    obtain ⟨k, hk, rfl, hf⟩ := hrel
    have HF : Hid (firstNZ xs = firstNZ (xs.drop k)) := hf
    clear hf
    by_cases hlt : k < xs.length
    · have hcell := hc k hlt
      have HS : Hid (firstNZ (xs.drop k) = if xs.getD k 0 = 0 then firstNZ (xs.drop (k+1)) else xs.getD k 0) := firstNZ_drop xs k hlt
      clear hc
      by_cases hz : xs.getD k 0 = 0
      · rw [hz] at hcell
        have HZ : Hid (xs.getD k 0 = 0) := hz
        clear hz
        go_wp2
        go_round
        case rel => exact ⟨k+1, by omega, by go_num, by rw [HF.out, HS.out, if_pos HZ.out]⟩
        case measure => simp [intOf]; omega
      · generalize xs.getD k 0 = z at *
        go_wp2
        go_ret
        refine ⟨?_, rfl⟩
        rw [HF.out, HS.out, if_neg hz]; rfl
    · go_wp2
      go_ret
      refine ⟨?_, rfl⟩
      rw [HF.out, List.drop_of_length_le (by omega)]; rfl
theorem cmpOr4 (b cap : Nat) (x y z u : Int) (w : World) (h0 : w.cell? ⟨b, 0, none⟩ = some (.int .i64 x)) (h1 : w.cell? ⟨b, 1, none⟩ = some (.int .i64 y)) (h2 : w.cell? ⟨b, 2, none⟩ = some (.int .i64 z)) (h3 : w.cell? ⟨b, 3, none⟩ = some (.int .i64 u)) :
    Calls Tryd.prog 132 #[.slice (some ⟨b, 0, none⟩) 4 cap] w fun e w' => e = .returned (.int .i64 (firstNZ [x, y, z, u])) ∧ w = w' :=
  cmpOr_any b 0 cap [x, y, z, u] w (by simp) (fun i hi => by
    match i, hi with
    | 0, _ => exact h0
    | 1, _ => exact h1
    | 2, _ => exact h2
    | 3, _ => exact h3)
abbrev nmV (n : Nm) : Value := .agg #[.int .i64 n.1, .int .i64 n.2.1, .int .i64 n.2.2]
abbrev alV (a : Al) : Value := .agg #[.int .i64 a.1.1, .int .i64 a.1.2.1, .int .i64 a.1.2.2, .int .i64 a.2]
theorem cmpAl_def (a b : Al) : cmpAl a b = firstNZ [cmpI a.2 b.2, cmpI a.1.1 b.1.1, cmpI a.1.2.1 b.1.2.1, cmpI a.1.2.2 b.1.2.2] := rfl
def cmpN (a b : Nm) : Int := firstNZ [cmpI a.1 b.1, cmpI a.2.1 b.2.1, cmpI a.2.2 b.2.2]
theorem first_is (a b : Al) : (if a.2 = b.2 then decide (cmpN a.1 b.1 < 0) else decide (a.2 < b.2)) = decide (aLt a b) := by
  rw [Bool.eq_iff_iff, decide_eq_true_eq, ← cmp_lt a b]
  unfold cmpAl cmpN
  by_cases h1 : a.2 = b.2
  · rw [if_pos h1, decide_eq_true_eq]
    have e : cmpI a.2 b.2 = 0 := by unfold cmpI; rw [if_neg (by omega), if_neg (by omega)]
    rw [e]
    simp only [firstNZ, if_true]
  · rw [if_neg h1, decide_eq_true_eq]
    have e : cmpI a.2 b.2 = (if a.2 < b.2 then -1 else 1) := by 
      unfold cmpI
      split
      · rfl
      · rw [if_pos (by omega)]
    rw [e]
    simp only [firstNZ]
    split <;> simp [*]
end Go.Proofs.YtokcgnbjkbhmiaaDoor
