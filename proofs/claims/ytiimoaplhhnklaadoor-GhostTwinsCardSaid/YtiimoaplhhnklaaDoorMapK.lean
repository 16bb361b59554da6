/- Maps whose keys are structs: a look-up, a store, a delete, told by the list of the entries. Over any program. -/
import Derived.Test.YtiimoaplhhnklaaDoorTX
import Derived.MapKept
import Derived.Laws.StructEq
namespace Go.Proofs.YtiimoaplhhnklaaDoor
open Go.RowKit
set_option linter.unusedSimpArgs false
set_option linter.unusedVariables false

section
variable {α β : Type} [DecidableEq α]
def mget (a : α) : List (α × β) → Option β
  | [] => none
  | p :: M => if a = p.1 then some p.2 else mget a M
def mset (a : α) (v : β) : List (α × β) → List (α × β)
  | [] => [(a, v)]
  | p :: M => if a = p.1 then (p.1, v) :: M else p :: mset a v M
def mdel (a : α) : List (α × β) → List (α × β)
  | [] => []
  | p :: M => if a = p.1 then M else p :: mdel a M
def midx (a : α) : List (α × β) → Option Nat
  | [] => none
  | p :: M => if a = p.1 then some 0 else (midx a M).map (· + 1)
theorem midx_none {a : α} : ∀ {M : List (α × β)}, midx a M = none → mget a M = none ∧ (∀ v, mset a v M = M ++ [(a, v)]) ∧ mdel a M = M
  | [], _ => ⟨rfl, fun _ => rfl, rfl⟩
  | p :: M, h => by
    unfold midx at h
    split at h
    · cases h
    · rename_i hn
      have ih := midx_none (M := M) (by cases hm : midx a M with | none => rfl | some i => rw [hm] at h; cases h)
      exact ⟨by unfold mget; rw [if_neg hn]; exact ih.1, fun v => by unfold mset; rw [if_neg hn, ih.2.1 v]; rfl, by unfold mdel; rw [if_neg hn, ih.2.2]⟩
theorem midx_some {a : α} : ∀ {M : List (α × β)} {i : Nat}, midx a M = some i → ∃ h : i < M.length, M[i].1 = a ∧ mget a M = some M[i].2 ∧ (∀ v, mset a v M = M.set i (a, v)) ∧ mdel a M = M.eraseIdx i
  | [], i, h => by cases h
  | p :: M, i, h => by
    unfold midx at h
    split at h
    · rename_i hp
      cases h
      refine ⟨by simp, hp.symm, by unfold mget; rw [if_pos hp]; rfl, fun v => by unfold mset; rw [if_pos hp, ← hp]; rfl, by unfold mdel; rw [if_pos hp]; rfl⟩
    · rename_i hn
      cases hm : midx a M with
      | none => rw [hm] at h; cases h
      | some j =>
        rw [hm] at h
        cases h
        obtain ⟨hl, h1, h2, h3, h4⟩ := midx_some hm
        refine ⟨by simpa using hl, by simpa using h1, by unfold mget; rw [if_neg hn, h2]; simp, fun v => by unfold mset; rw [if_neg hn, h3 v]; rfl, by unfold mdel; rw [if_neg hn, h4]; rfl⟩
theorem map_erase {γ δ : Type} (f : γ → δ) : ∀ (l : List γ) (i : Nat), (l.eraseIdx i).map f = (l.map f).eraseIdx i
  | [], _ => rfl
  | _ :: _, 0 => rfl
  | a :: l, i + 1 => by simp [map_erase f l i]
/-- What the model asks of a key. -/
structure KeyOK (P : Program) (k : TypeId) (ek : α → Value) : Prop where
  chk : ∀ b a w, (Instr.checkKey b 10000 k (ek a)).run P w = .ok () w
  eql : ∀ a b w, (Op.equal k (ek a) (ek b)).run P w = .ok (decide (a = b)) w
  now : ∃ d, P.underlying k = some d ∧ ∀ a b, Instr.sameNow d (ek a) (ek b) = none
  bits : ∀ a, Instr.sameBits 10000 (ek a) (ek a) = true
/-- The entries of a map, in the order in which they were laid in. -/
def MapAt (ek : α → Value) (ev : β → Value) (w : World) (b : Nat) (M : List (α × β)) : Prop :=
  ∃ es clock, w.heap[b]? = some (.map es clock) ∧ es.toList.map (fun e => (e.key, e.val)) = M.map fun p => (ek p.1, ev p.2)
variable {P : Program} {k : TypeId} {ek : α → Value} {ev : β → Value}
theorem run_findAsking_k (hk : KeyOK P k ek) (a : α) (w : World) : ∀ (es : List MapEntry) (M : List (α × β)) (i : Nat), es.map (fun e => (e.key, e.val)) = M.map (fun p => (ek p.1, ev p.2)) →
    (Instr.findAsking k (ek a) es i).run P w = .ok ((midx a M).bind fun j => (M[j]?).map fun p => (i + j, ev p.2)) w
  | [], [], i, _ => by simp [Instr.findAsking, midx]
  | [], _ :: _, _, h => by simp at h
  | _ :: _, [], _, h => by simp at h
  | e :: es, p :: M, i, h => by
    simp only [List.map_cons, List.cons.injEq, Prod.mk.injEq] at h
    obtain ⟨⟨h1, h2⟩, h3⟩ := h
    have ih := run_findAsking_k hk a w es M (i + 1) h3
    have he := hk.eql a p.1 w
    rw [← h1] at he
    by_cases hp : a = p.1
    · rw [decide_eq_true hp] at he
      have e1 : midx a (p :: M) = some 0 := by simp only [midx, if_pos hp]
      rw [e1]
      simp [Instr.findAsking, he, h2]
    · rw [decide_eq_false hp] at he
      simp only [Instr.findAsking, Sem.run_bind, he, Result.andThen_ok, Bool.false_eq_true, if_false, ih]
      have e1 : midx a (p :: M) = (midx a M).map (· + 1) := by simp only [midx, if_neg hp]
      rw [e1]
      cases hm : midx a M with
      | none => rfl
      | some j => simp [Nat.add_assoc, Nat.add_comm 1 j]
theorem run_findKey_k (hk : KeyOK P k ek) (a : α) (w : World) {es : List MapEntry} {M : List (α × β)} (h : es.map (fun e => (e.key, e.val)) = M.map (fun p => (ek p.1, ev p.2))) :
    (Instr.findKey k (ek a) es).run P w = .ok ((midx a M).bind fun j => (M[j]?).map fun p => (j, ev p.2)) w := by
  obtain ⟨d, h1, h2⟩ := hk.now
  have h3 := run_findAsking_k hk a w es M 0 h
  simp only [Nat.zero_add] at h3
  unfold Instr.findKey
  simp only [Sem.run_bind, run_underlying h1, Result.andThen_ok]
  match es, M, h with
  | [], [], _ => simp [Instr.findNow, midx]
  | [], _ :: _, h => simp at h
  | _ :: _, [], h => simp at h
  | e :: es, p :: M, h =>
    simp only [List.map_cons, List.cons.injEq, Prod.mk.injEq] at h
    have h4 := h2 a p.1
    rw [← h.1.1] at h4
    simp only [Instr.findNow, h4]
    exact h3
theorem map_lookup (hk : KeyOK P k ek) {t e : TypeId} (ht : P.underlying t = some (.map k e)) {w : World} {b : Nat} {M : List (α × β)} (h : MapAt ek ev w b M) {z : Value} (hz : (zeroValue e).run P w = .ok z w) (a : α) (c : Bool) :
    (Instr.lookup t (.map (some b)) (ek a) c).run P w = .ok (if c then .tuple #[((mget a M).map ev).getD z, .bool (mget a M).isSome] else ((mget a M).map ev).getD z) w := by
  obtain ⟨es, clock, h1, h2⟩ := h
  have h3 := run_findKey_k hk a w h2
  unfold Instr.lookup
  simp only [Sem.run_bind, run_underlying ht, Result.andThen_ok, MapKept.run_getObj_map h1, hk.chk, h3, Sem.run_pure]
  cases hm : midx a M with
  | none =>
    obtain ⟨e1, -, -⟩ := midx_none hm
    simp [e1, hz]
  | some j =>
    obtain ⟨hl, -, e1, -, -⟩ := midx_some hm
    simp [e1, hl]
theorem map_lookup_nil (hk : KeyOK P k ek) {t e : TypeId} (ht : P.underlying t = some (.map k e)) {w : World} {z : Value} (hz : (zeroValue e).run P w = .ok z w) (a : α) (c : Bool) :
    (Instr.lookup t (.map none) (ek a) c).run P w = .ok (if c then .tuple #[z, .bool false] else z) w := by
  have h3 := run_findKey_k (ev := fun (_ : Unit) => Value.bool true) hk a w (es := []) (M := []) rfl
  unfold Instr.lookup
  simp only [Sem.run_bind, run_underlying ht, Result.andThen_ok, hk.chk, Sem.run_pure]
  have : (Instr.findKey k (ek a) #[].toList).run P w = .ok none w := by simpa [midx] using h3
  simp [this, hz]
def wset (w : World) (b : Nat) (o : Obj) : World := { w with heap := w.heap.setIfInBounds b o }
theorem wset_xl {w : World} {b : Nat} {o : Obj} : Xl [b] w (wset w b o) := ⟨rfl, rfl, rfl, by simp [wset], fun k hk hn => by
  have : b ≠ k := fun e => hn (by simp [e])
  simp [wset, Array.getElem?_setIfInBounds_ne this]⟩
theorem wset_get {w : World} {b : Nat} {o o' : Obj} (h : w.heap[b]? = some o) : (wset w b o').heap[b]? = some o' := by
  have hb := (Array.getElem?_eq_some_iff.1 h).1
  simp [wset, Array.getElem?_setIfInBounds_self, hb]
theorem map_store (hk : KeyOK P k ek) {t e : TypeId} (ht : P.underlying t = some (.map k e)) {w : World} {b : Nat} {M : List (α × β)} (h : MapAt ek ev w b M) (a : α) (v : β) :
    ∃ w', (Instr.mapUpdate t (.map (some b)) (ek a) (ev v)).run P w = .ok () w' ∧ MapAt ek ev w' b (mset a v M) ∧ Xl [b] w w' := by
  obtain ⟨es, clock, h1, h2⟩ := h
  have h3 := run_findKey_k hk a w h2
  have hlen : es.size = M.length := by have := congrArg List.length h2; simpa using this
  cases hm : midx a M with
  | none =>
    obtain ⟨-, e1, -⟩ := midx_none hm
    rw [hm] at h3
    simp only [Option.bind_none] at h3
    refine ⟨wset w b (.map (es.push { key := ek a, val := ev v, born := clock }) (clock + 1)), ?_, ⟨_, _, wset_get h1, ?_⟩, wset_xl⟩
    · simp [Instr.mapUpdate, run_underlying ht, MapKept.run_getObj_map h1, hk.chk, h3, MapKept.run_setObj_map _ h1, wset]
    · rw [e1 v]; simp [h2]
  | some j =>
    obtain ⟨hl, hk1, -, e1, -⟩ := midx_some hm
    rw [hm] at h3
    simp only [Option.bind_some, List.getElem?_eq_getElem hl, Option.map_some] at h3
    have hj : j < es.size := by rw [hlen]; exact hl
    have hold : es[j].key = ek a := by
      have := congrArg (fun l => l[j]?) h2
      simp [List.getElem?_map, hl, hj] at this
      rw [this.1, hk1]
    have hst : (Instr.keyThatStays (ek a) (ek a)).run P w = .ok (ek a) w := by unfold Instr.keyThatStays; rw [if_pos (hk.bits a)]; simp
    refine ⟨wset w b (.map (es.modify j fun e => { e with key := ek a, val := ev v }) clock), ?_, ⟨_, _, wset_get h1, ?_⟩, wset_xl⟩
    · simp [Instr.mapUpdate, run_underlying ht, MapKept.run_getObj_map h1, hk.chk, h3, hj, hold, hst, MapKept.run_setObj_map _ h1, wset]
    · rw [e1 v]
      apply List.ext_getElem?
      intro i
      have hi := congrArg (fun l => l[i]?) h2
      simp only [List.getElem?_map, Array.getElem?_toList, Array.getElem?_modify, List.getElem?_set] at hi ⊢
      by_cases hij : j = i
      · subst hij
        simp [hj, hl]
      · simp [hij]
        exact hi
theorem map_delete (hk : KeyOK P k ek) {t e : TypeId} (ht : P.underlying t = some (.map k e)) {w : World} {b : Nat} {M : List (α × β)} (h : MapAt ek ev w b M) (a : α) (ty : TypeId) :
    ∃ w', (Builtin.delete_ #[t, k] ty #[.map (some b), ek a]).run P w = .ok (.tuple #[]) w' ∧ MapAt ek ev w' b (mdel a M) ∧ Xl [b] w w' := by
  obtain ⟨es, clock, h1, h2⟩ := h
  have h3 := run_findKey_k hk a w h2
  have hlen : es.size = M.length := by have := congrArg List.length h2; simpa using this
  cases hm : midx a M with
  | none =>
    obtain ⟨-, -, e1⟩ := midx_none hm
    rw [hm] at h3
    simp only [Option.bind_none] at h3
    refine ⟨wset w b (.map es clock), ?_, ⟨_, _, wset_get h1, by rw [e1]; exact h2⟩, wset_xl⟩
    simp [Builtin.delete_, run_underlying ht, MapKept.run_getObj_map h1, hk.chk, h3, MapKept.run_setObj_map _ h1, wset]
  | some j =>
    obtain ⟨hl, hk1, -, -, e1⟩ := midx_some hm
    rw [hm] at h3
    simp only [Option.bind_some, List.getElem?_eq_getElem hl, Option.map_some] at h3
    have hj : j < es.size := by rw [hlen]; exact hl
    refine ⟨wset w b (.map (es.eraseIdxIfInBounds j) clock), ?_, ⟨_, _, wset_get h1, ?_⟩, wset_xl⟩
    · simp [Builtin.delete_, run_underlying ht, MapKept.run_getObj_map h1, hk.chk, h3, MapKept.run_setObj_map _ h1, wset]
    · rw [e1]
      have : (es.eraseIdxIfInBounds j).toList = es.toList.eraseIdx j := by
        unfold Array.eraseIdxIfInBounds
        rw [dif_pos hj, Array.toList_eraseIdx]
      rw [this, map_erase, h2, map_erase]
end
end Go.Proofs.YtiimoaplhhnklaaDoor
