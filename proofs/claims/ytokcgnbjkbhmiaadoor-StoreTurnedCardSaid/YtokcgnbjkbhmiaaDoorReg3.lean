/- A region that draws its order, by a plan, where some operations look at no memory at all. -/
import Derived.Test.YtokcgnbjkbhmiaaDoorReg
namespace Go.Proofs.YtokcgnbjkbhmiaaDoor
open Go.RowKit
section
variable {P : Program} {ops : Array Oper} {Q : Exit → Act → World → Prop} {md : Region.Mode} {E : World → World → Prop} {fl cal : Nat → Bool}

/-- What the world may become ahead of operation i. -/
def relC (cal : Nat → Bool) (E : World → World → Prop) (i : Nat) (w w' : World) : Prop := cal i = true ∨ E w w'
theorem relC_refl (hr0 : ∀ w, E w w) (i : Nat) : ∀ w, relC cal E i w w := fun w => .inr (hr0 w)
theorem relC_trans (ht : ∀ a b c, E a b → E b c → E a c) (i : Nat) : ∀ a b c, relC cal E i a b → relC cal E i b c → relC cal E i a c := fun a b c h k => by
  rcases h with h | h
  · exact .inl h
  · rcases k with k | k
    · exact .inl k
    · exact .inr (ht _ _ _ h k)
theorem wpAnyE_firstC (hr0 : ∀ w, E w w) (ht : ∀ a b c, E a b → E b c → E a c) {i : Nat} {oi : Oper} {v : Value} (hi : ops[i]? = some oi) (hsel : ∀ (j : Nat) (o : Oper) cs b, ops[j]? = some o → o.op ≠ .select cs b)
    (hQ : ∀ c a w d v, Q (.panic c) (Act.put a d v) w → Q (.panic c) a w) :
    ∀ (fuel : Nat) (listed : Array Bool) (a : Act) (w : World),
      (∀ j oj, ops[j]? = some oj → j ≠ i → listed.getD j true = false → (∀ e ∈ oj.after, Region.binds md e = true → e.on ≠ i) → oi.apart ops oj = true ∧ (fl j = true ∨ cal i = true)) →
      i ∈ Region.ready md ops listed → QuietAt P ops (relC cal E i) w oi v a →
      wpAnyE P md ops Q E fl fuel (listed.setIfInBounds i true) (a.put oi.dst v) w → wpAnyE P md ops Q E fl (fuel + 1) listed a w := by
  intro fuel
  induction fuel with
  | zero =>
    intro listed a w _ hr hy H
    refine ⟨fun h => (by rw [h] at hr; cases hr), fun j hj => ?_⟩
    by_cases hji : j = i
    · subst hji; exact hy.wpOp hi (relC_refl hr0 _ _) ⟨fun _ => hr0 _, H⟩
    · have := ready_mono hj hji
      rw [H.1] at this
      cases this
  | succ fuel ih =>
    intro listed a w hfree hr hy H
    refine ⟨fun h => (by rw [h] at hr; cases hr), fun j hj => ?_⟩
    by_cases hji : j = i
    · subst hji; exact hy.wpOp hi (relC_refl hr0 _ _) ⟨fun _ => hr0 _, H⟩
    · have h1 := H.2 j (ready_mono hj hji)
      obtain ⟨hjun, oj, hoj, hall⟩ := mem_ready.1 hj
      have hnot : ∀ e ∈ oj.after, Region.binds md e = true → e.on ≠ i := fun e he hb heq => by
        have h1 := hall e he hb
        have h0 := (mem_ready.1 hr).1
        rw [heq] at h1
        rcases Nat.lt_or_ge i listed.size with h' | h'
        · simp [h'] at h0 h1; rw [h0] at h1; cases h1
        · simp [Array.getElem?_eq_none h'] at h1
      obtain ⟨hap, hfl⟩ := hfree j oj hoj hji hjun hnot
      have h2 := wpOp_putE hoj hap (fun cs b => hsel i oi cs b hi) (fun cs b => hsel j oj cs b hoj) hQ hy h1
      have hfree' : ∀ k ok, ops[k]? = some ok → k ≠ i → (listed.setIfInBounds j true).getD k true = false →
          (∀ e ∈ ok.after, Region.binds md e = true → e.on ≠ i) → oi.apart ops ok = true ∧ (fl k = true ∨ cal i = true) := fun k ok hk hki hun hno => by
        refine hfree k ok hk hki ?_ hno
        by_cases hjk : j = k
        · subst hjk; exact hjun
        · rw [getD_set_ne true hjk] at hun; exact hun
      refine wpOp_mono (fun a' w' h3 => ⟨h3.2.1, ih (listed.setIfInBounds j true) a' w' hfree' (ready_mono hr (Ne.symm hji)) (h3.1.later (relC_trans ht i) (hfl.elim (fun hf => .inr (h3.2.1 hf)) .inl)) ?_⟩) h2
      rw [Array.setIfInBounds_comm _ _ hji]
      exact h3.2.2

def Plan.okGC (md : Region.Mode) (ops : Array Oper) (fl cal : Nat → Bool) : Bool → Plan → Array Bool → Bool
  | false, .done, listed => (Region.ready md ops listed).isEmpty
  | false, .quiet i p, listed => (Region.ready md ops listed).contains i && Region.freeE md ops (fun j => fl j || cal i) listed i && p.okGC md ops fl cal false (listed.setIfInBounds i true)
  | false, .alt i p q, listed => (Region.ready md ops listed).all (fun j => (i :: q.heads).contains j) && !(Region.ready md ops listed).isEmpty && p.okGC md ops fl cal false (listed.setIfInBounds i true) && q.okGC md ops fl cal true listed
  | false, .stop, _ => false
  | true, .alt i p q, listed => p.okGC md ops fl cal false (listed.setIfInBounds i true) && q.okGC md ops fl cal true listed
  | true, .stop, _ => true
  | true, _, _ => false

/-- What is to be shown, operation by operation. -/
def wpPlanC (P : Program) (ops : Array Oper) (Q : Exit → Act → World → Prop) (E : World → World → Prop) (fl cal : Nat → Bool) : Plan → Act → World → Prop
  | .done, a, w => Q .normal a w
  | .stop, _, _ => True
  | .quiet i p, a, w => ∃ o v, ops[i]? = some o ∧ QuietAt P ops (relC cal E i) w o v a ∧ wpPlanC P ops Q E fl cal p (a.put o.dst v) w
  | .alt i p q, a, w => wpOp P ops Q i (fun a' w' => (fl i = true → E w w') ∧ wpPlanC P ops Q E fl cal p a' w') a w ∧ wpPlanC P ops Q E fl cal q a w

theorem wpAnyE_planC (hr0 : ∀ w, E w w) (ht : ∀ a b c, E a b → E b c → E a c) (hs : Region.noSelect ops = true)
    (hQ : ∀ c a w d v, Q (.panic c) (Act.put a d v) w → Q (.panic c) a w) : ∀ (p : Plan),
    (∀ (fuel : Nat) (listed : Array Bool) (a : Act) (w : World), p.okGC md ops fl cal false listed = true → p.depth ≤ fuel → wpPlanC P ops Q E fl cal p a w → wpAnyE P md ops Q E fl fuel listed a w) ∧
    (∀ (fuel : Nat) (listed : Array Bool) (a : Act) (w : World), p.okGC md ops fl cal true listed = true → p.depth ≤ fuel + 1 → wpPlanC P ops Q E fl cal p a w →
      ∀ i ∈ p.heads, wpOp P ops Q i (fun a' w' => (fl i = true → E w w') ∧ wpAnyE P md ops Q E fl fuel (listed.setIfInBounds i true) a' w') a w) := by
  intro p
  induction p with
  | done =>
    refine ⟨fun fuel listed a w hok _ h => ?_, fun fuel listed a w hok _ _ => by simp [Plan.okGC] at hok⟩
    exact wpAnyE_done (by simpa [Plan.okGC] using hok) h fuel
  | stop => exact ⟨fun fuel listed a w hok _ _ => by simp [Plan.okGC] at hok, fun fuel listed a w _ _ _ i hi => by simp [Plan.heads] at hi⟩
  | quiet i p ih =>
    refine ⟨fun fuel listed a w hok hd h => ?_, fun fuel listed a w hok _ _ => by simp [Plan.okGC] at hok⟩
    obtain ⟨o, v, hi, hy, hp⟩ := h
    simp only [Plan.okGC, Bool.and_eq_true] at hok
    obtain ⟨⟨h1, h2⟩, h3⟩ := hok
    simp only [Plan.depth] at hd
    obtain ⟨f, rfl⟩ : ∃ f, fuel = f + 1 := ⟨fuel - 1, by omega⟩
    refine wpAnyE_firstC hr0 ht hi (Region.noSelect_spec hs) hQ f listed a w (fun j oj hj hne hun hno => ?_) (by simpa using h1) hy (ih.1 f _ _ _ h3 (by omega) hp)
    obtain ⟨k1, k2⟩ := Region.freeE_spec hi h2 j oj hj hne hun hno
    exact ⟨k1, by simpa using k2⟩
  | alt i p q ihp ihq =>
    constructor
    · intro fuel listed a w hok hd h
      simp only [Plan.okGC, Bool.and_eq_true, List.all_eq_true, Bool.not_eq_true'] at hok
      obtain ⟨⟨⟨h1, h2⟩, h3⟩, h4⟩ := hok
      simp only [Plan.depth] at hd
      obtain ⟨f, rfl⟩ : ∃ f, fuel = f + 1 := ⟨fuel - 1, by omega⟩
      refine ⟨fun h0 => (by rw [h0] at h2; cases h2), fun j hj => ?_⟩
      have hj' := h1 j hj
      by_cases hji : j = i
      · subst hji
        exact wpOp_mono (fun a' w' hh => ⟨hh.1, ihp.1 f _ _ _ h3 (by omega) hh.2⟩) h.1
      · have hq : j ∈ q.heads := by
          simp only [List.contains_eq_mem, List.mem_cons, decide_eq_true_eq] at hj'
          exact hj'.resolve_left hji
        exact ihq.2 f listed a w h4 (by omega) h.2 j hq
    · intro fuel listed a w hok hd h k hk
      simp only [Plan.okGC, Bool.and_eq_true] at hok
      simp only [Plan.depth] at hd
      rcases List.mem_cons.1 hk with rfl | hk
      · exact wpOp_mono (fun a' w' hh => ⟨hh.1, ihp.1 fuel _ _ _ hok.1 (by omega) hh.2⟩) h.1
      · exact ihq.2 fuel listed a w hok.2 (by omega) h.2 k hk

def Plan.fitsC (ops : Array Oper) (fl cal : Nat → Bool) (p : Plan) : Bool :=
  Region.noSelect ops && decide (p.depth ≤ ops.size) && p.okGC .any ops fl cal false (Array.replicate ops.size false)
theorem wp_region_held_planC {l : List Oper} {id : Nat} {a : Act} {w : World} (E : World → World → Prop) (fl cal : Nat → Bool) (p : Plan) (hm : P.follows .mixedOrders = true) (hp : p.fitsC l.toArray fl cal = true)
    (hr0 : ∀ w, E w w) (ht : ∀ a b c, E a b → E b c → E a c) (hQ : ∀ c a w d v, Q (.panic c) (Act.put a d v) w → Q (.panic c) a w)
    (h : ∀ ops : Array Oper, Hid (ops = l.toArray) → wpPlanC P ops Q E fl cal p a w.drew) : (Code.region id l.toArray true).wp P Q a w := by
  simp only [Plan.fitsC, Bool.and_eq_true, decide_eq_true_eq] at hp
  exact wp_region_any hm (wpAny_of_E _ _ _ _ ((wpAnyE_planC hr0 ht hp.1.1 hQ p).1 _ _ _ _ hp.2 hp.1.2 (h _ rfl)))

section steps
variable {i : Nat} {p q : Plan} {a : Act} {w : World} {o : Oper} {v : Value}
theorem planC_read (v : Value) (hi : ops[i]? = some o) (hw : Region.wanted o (yielded ops a.tmps) = true) (hc : cal i = false) (hv : ∀ w', E w w' → (execOp a.eval o).run P w' = .ok (.value v) w')
    (h : wpPlanC P ops Q E fl cal p (a.put o.dst v) w) : wpPlanC P ops Q E fl cal (.quiet i p) a w :=
  ⟨o, v, hi, .inl ⟨hw, fun w' hE => .inl (hv w' (hE.elim (fun h => by rw [hc] at h; cases h) id))⟩, h⟩
theorem planC_calm (v : Value) (hi : ops[i]? = some o) (hw : Region.wanted o (yielded ops a.tmps) = true) (hv : ∀ w', (execOp a.eval o).run P w' = .ok (.value v) w')
    (h : wpPlanC P ops Q E fl cal p (a.put o.dst v) w) : wpPlanC P ops Q E fl cal (.quiet i p) a w :=
  ⟨o, v, hi, .inl ⟨hw, fun w' _ => .inl (hv w')⟩, h⟩
theorem planC_done (h : Q .normal a w) : wpPlanC P ops Q E fl cal .done a w := h
theorem planC_fork (h : wpPlanC P ops Q E fl cal (.alt i p .stop) a w) (hq : wpPlanC P ops Q E fl cal q a w) : wpPlanC P ops Q E fl cal (.alt i p q) a w := ⟨h.1, hq⟩
theorem planC_skip (hi : ops[i]? = some o) (hw : Region.wanted o (yielded ops a.tmps) = false)
    (h : wpPlanC P ops Q E fl cal p (a.put o.dst undef) w) : wpPlanC P ops Q E fl cal (.quiet i p) a w :=
  ⟨o, undef, hi, .inr ⟨hw, rfl⟩, h⟩
theorem planC_loud1 (hi : ops[i]? = some o) (hw : Region.wanted o (yielded ops a.tmps) = true)
    (h : o.wp P a w (fun a' w' => (fl i = true → E w w') ∧ wpPlanC P ops Q E fl cal p a' w') Q) : wpPlanC P ops Q E fl cal (.alt i p .stop) a w := by
  refine ⟨?_, trivial⟩
  unfold wpOp
  simp only [hi, hw, if_true]
  exact .inl h
theorem planC_call1 {f : FuncId} {as : Array Operand} {ts : Array TypeId} {args : Array Value} {R : Ending → World → Prop} (he : Enters P f) (hi : ops[i]? = some o) (hw : Region.wanted o (yielded ops a.tmps) = true)
    (hop : o.op = .call { callee := .value (.func f), args := as, argTypes := ts }) (hargs : as.map a.eval = args) (hc : Calls P f args w R)
    (h : ∀ e w', R e w' → ∃ v, e = .returned v ∧ (fl i = true → E w w') ∧ wpPlanC P ops Q E fl cal p (a.put o.dst v) w') : wpPlanC P ops Q E fl cal (.alt i p .stop) a w := by
  refine planC_loud1 hi hw ?_
  unfold Oper.wp
  rw [run_call he hop hargs w]
  refine hc.mono fun e w' hR => ?_
  obtain ⟨v, rfl, h1, h2⟩ := h e w' hR
  exact ⟨h1, h2⟩
end steps
end
end Go.Proofs.YtokcgnbjkbhmiaaDoor
