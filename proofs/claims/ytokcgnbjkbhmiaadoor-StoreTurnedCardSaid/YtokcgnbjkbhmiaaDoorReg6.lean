/- A region that draws its order, by a plan, where an operation may call the body of a range over a function (the fence wide, no round). -/
import Derived.Test.YtokcgnbjkbhmiaaDoorReg
import Derived.OrdersIn
import Derived.RangeFuncSeq
namespace Go.Proofs.YtokcgnbjkbhmiaaDoor
open Go.RowKit
section
variable {P : Program} {ops : Array Oper} {Q : Exit → Act → World → Prop} {md : Region.Mode} {n : Nat}

def wpPlanI (P : Program) (n : Nat) (ops : Array Oper) (Q : Exit → Act → World → Prop) : Plan → Act → World → Prop
  | .done, a, w => Q .normal a w
  | .stop, _, _ => True
  | .quiet i p, a, w => ∃ o v, ops[i]? = some o ∧ YieldsFenced P ops o v a ∧ wpPlanI P n ops Q p (a.put o.dst v) w
  | .alt i p q, a, w => wpOpIn Fence.wide n P ops Q i (wpPlanI P n ops Q p) a w ∧ wpPlanI P n ops Q q a w
def Plan.okI (md : Region.Mode) (ops : Array Oper) : Bool → Plan → Array Bool → Bool
  | false, .done, listed => (Region.ready md ops listed).isEmpty
  | false, .quiet i p, listed => (Region.ready md ops listed).contains i && Region.free md ops listed i && p.okI md ops false (listed.setIfInBounds i true)
  | false, .alt i p q, listed => (Region.ready md ops listed).all (fun j => (i :: q.heads).contains j) && !(Region.ready md ops listed).isEmpty && p.okI md ops false (listed.setIfInBounds i true) && q.okI md ops true listed
  | false, .stop, _ => false
  | true, .alt i p q, listed => p.okI md ops false (listed.setIfInBounds i true) && q.okI md ops true listed
  | true, .stop, _ => true
  | true, _, _ => false
theorem wpAnyIn_plan (hs : Region.noSelect ops = true) (hQ : ∀ c a w d v, Q (.panic c) (Act.put a d v) w → Q (.panic c) a w) : ∀ (p : Plan),
    (∀ (fuel : Nat) (listed : Array Bool) (a : Act) (w : World), p.okI md ops false listed = true → p.depth ≤ fuel → wpPlanI P n ops Q p a w → wpAnyIn Fence.wide n P md ops Q fuel listed a w) ∧
    (∀ (fuel : Nat) (listed : Array Bool) (a : Act) (w : World), p.okI md ops true listed = true → p.depth ≤ fuel + 1 → wpPlanI P n ops Q p a w →
      ∀ i ∈ p.heads, wpOpIn Fence.wide n P ops Q i (wpAnyIn Fence.wide n P md ops Q fuel (listed.setIfInBounds i true)) a w) := by
  intro p
  induction p with
  | done =>
    refine ⟨fun fuel listed a w hok _ h => ?_, fun fuel listed a w hok _ _ => by simp [Plan.okI] at hok⟩
    exact wpAnyIn_done (by simpa [Plan.okI] using hok) h fuel
  | stop => exact ⟨fun fuel listed a w hok _ _ => by simp [Plan.okI] at hok, fun fuel listed a w _ _ _ i hi => by simp [Plan.heads] at hi⟩
  | quiet i p ih =>
    refine ⟨fun fuel listed a w hok hd h => ?_, fun fuel listed a w hok _ _ => by simp [Plan.okI] at hok⟩
    obtain ⟨o, v, hi, hy, hp⟩ := h
    simp only [Plan.okI, Bool.and_eq_true] at hok
    obtain ⟨⟨h1, h2⟩, h3⟩ := hok
    simp only [Plan.depth] at hd
    obtain ⟨f, rfl⟩ : ∃ f, fuel = f + 1 := ⟨fuel - 1, by omega⟩
    exact wpAnyIn_take rfl hi hs h2 h1 (fun c a w h => hQ _ _ _ _ _ h) hy (ih.1 f _ _ _ h3 (by omega) hp)
  | alt i p q ihp ihq =>
    constructor
    · intro fuel listed a w hok hd h
      simp only [Plan.okI, Bool.and_eq_true, List.all_eq_true, Bool.not_eq_true'] at hok
      obtain ⟨⟨⟨h1, h2⟩, h3⟩, h4⟩ := hok
      simp only [Plan.depth] at hd
      obtain ⟨f, rfl⟩ : ∃ f, fuel = f + 1 := ⟨fuel - 1, by omega⟩
      refine ⟨fun h0 => (by rw [h0] at h2; cases h2), fun j hj => ?_⟩
      have hj' := h1 j hj
      by_cases hji : j = i
      · subst hji
        exact wpOpIn_mono (fun a' w' hh => ihp.1 f _ _ _ h3 (by omega) hh) h.1
      · have hq : j ∈ q.heads := by
          simp only [List.contains_eq_mem, List.mem_cons, decide_eq_true_eq] at hj'
          exact hj'.resolve_left hji
        exact ihq.2 f listed a w h4 (by omega) h.2 j hq
    · intro fuel listed a w hok hd h k hk
      simp only [Plan.okI, Bool.and_eq_true] at hok
      simp only [Plan.depth] at hd
      rcases List.mem_cons.1 hk with rfl | hk
      · exact wpOpIn_mono (fun a' w' hh => ihp.1 fuel _ _ _ hok.1 (by omega) hh) h.1
      · exact ihq.2 fuel listed a w hok.2 (by omega) h.2 k hk
def Plan.fitsI (ops : Array Oper) (p : Plan) : Bool :=
  Region.noSelect ops && decide (p.depth ≤ ops.size) && p.okI .any ops false (Array.replicate ops.size false)
/-- **A region that draws its order, by a plan, in the fence wide.** -/
theorem wpIn_region_planI {l : List Oper} {id : Nat} {a : Act} {w : World} (p : Plan) (hm : P.follows .mixedOrders = true) (hp : p.fitsI l.toArray = true)
    (hQ : ∀ c a w d v, Q (.panic c) (Act.put a d v) w → Q (.panic c) a w)
    (h : ∀ ops : Array Oper, Hid (ops = l.toArray) → wpPlanI P n ops Q p a w.drew) : (Code.region id l.toArray true).wpIn Fence.wide n P Q a w := by
  simp only [Plan.fitsI, Bool.and_eq_true, decide_eq_true_eq] at hp
  exact wpIn_region_any hm ((wpAnyIn_plan hp.1.1 hQ p).1 _ _ _ _ hp.2 hp.1.2 (h _ rfl))

section steps
variable {i : Nat} {p q : Plan} {a : Act} {w : World} {o : Oper} {v : Value}
theorem planI_done (h : Q .normal a w) : wpPlanI P n ops Q .done a w := h
theorem planI_stop : wpPlanI P n ops Q .stop a w := trivial
theorem planI_fork (h : wpPlanI P n ops Q (.alt i p .stop) a w) (hq : wpPlanI P n ops Q q a w) : wpPlanI P n ops Q (.alt i p q) a w := ⟨h.1, hq⟩
theorem planI_calm (v : Value) (hi : ops[i]? = some o) (hw : Region.wanted o (yielded ops a.tmps) = true) (hv : ∀ w', (execOp a.eval o).run P w' = .ok (.value v) w') (hab : ∀ w, o.about P w a.eval = none)
    (h : wpPlanI P n ops Q p (a.put o.dst v) w) : wpPlanI P n ops Q (.quiet i p) a w := ⟨o, v, hi, ⟨.inl ⟨hw, hv⟩, hab⟩, h⟩
theorem planI_boolc (b : Bool) (hi : ops[i]? = some o) (hw : Region.wanted o (yielded ops a.tmps) = true) {v : Value} (hv : ∀ w', (execOp a.eval o).run P w' = .ok (.value v) w') (hvb : v = .bool b) (hab : ∀ w, o.about P w a.eval = none)
    (hF : b = false → wpPlanI P n ops Q p (a.put o.dst (.bool false)) w) (hT : b = true → wpPlanI P n ops Q p (a.put o.dst (.bool true)) w) : wpPlanI P n ops Q (.quiet i p) a w := by
  subst hvb
  cases b with
  | false => exact planI_calm _ hi hw hv hab (hF rfl)
  | true => exact planI_calm _ hi hw hv hab (hT rfl)
theorem planI_skip (hi : ops[i]? = some o) (hw : Region.wanted o (yielded ops a.tmps) = false) (hab : ∀ w, o.about P w a.eval = none)
    (h : wpPlanI P n ops Q p (a.put o.dst undef) w) : wpPlanI P n ops Q (.quiet i p) a w := ⟨o, undef, hi, ⟨.inr ⟨hw, rfl⟩, hab⟩, h⟩
theorem planI_skip1 (hi : ops[i]? = some o) (hw : Region.wanted o (yielded ops a.tmps) = false)
    (h : wpPlanI P n ops Q p (a.put o.dst undef) w) : wpPlanI P n ops Q (.alt i p .stop) a w := by
  refine ⟨?_, trivial⟩
  unfold wpOpIn
  simp only [hi, hw, Bool.false_eq_true, if_false]
  exact ⟨fun _ _ => trivial, h⟩
theorem planI_loud1 (hi : ops[i]? = some o) (hw : Region.wanted o (yielded ops a.tmps) = true)
    (h : o.uponIn Fence.wide n P a (wpPlanI P n ops Q p) Q ((execOp a.eval o).run P w)) : wpPlanI P n ops Q (.alt i p .stop) a w := by
  refine ⟨?_, trivial⟩
  unfold wpOpIn
  simp only [hi, hw, if_true]
  refine ⟨fun _ _ => trivial, ?_⟩
  rw [show Fence.wide.round = none from rfl, Oper.semAt_none]
  exact h
theorem planI_call1 {f : FuncId} {as : Array Operand} {ts : Array TypeId} {args : Array Value} {R : Ending → World → Prop} (he : Enters P f) (hi : ops[i]? = some o) (hw : Region.wanted o (yielded ops a.tmps) = true)
    (hop : o.op = .call { callee := .value (.func f), args := as, argTypes := ts }) (hargs : as.map a.eval = args) (hc : CallsIn Fence.wide (n - 1) P f args w R)
    (h : ∀ e w', R e w' → ∃ v, e = .returned v ∧ wpPlanI P n ops Q p (a.put o.dst v) w') : wpPlanI P n ops Q (.alt i p .stop) a w := by
  refine planI_loud1 hi hw ?_
  rw [run_call he hop hargs w]
  refine ⟨fun e => (Bool.false_ne_true e).elim, hc.mono fun e w' hR => ?_⟩
  obtain ⟨v, rfl, h2⟩ := h e w' hR
  exact h2
/-- The body of a range over a function is called. -/
theorem planI_round {l : Nat} {c : Operand} {as : Array Operand} {ts : Array TypeId} {args : Array Value} {R : Ending → World → Prop} (hi : ops[i]? = some o) (hw : Region.wanted o (yielded ops a.tmps) = true)
    (hop : o.op = .call { callee := .value c, args := as, argTypes := ts }) (hcv : a.eval c = .func (.yield l) #[] #[]) (hargs : as.map a.eval = args) (hc : YieldAt Fence.wide (n - 1) P l args w R)
    (h : ∀ e w', R e w' → ∃ v, e = .returned v ∧ wpPlanI P n ops Q p (a.put o.dst v) w') : wpPlanI P n ops Q (.alt i p .stop) a w := by
  refine planI_loud1 hi hw ?_
  obtain ⟨fn, tmps, assign, body, h1, h2⟩ := hc
  have e1 : (execOp a.eval o).run P w = .ok (.round l fn tmps assign body) w := by
    unfold execOp
    simp [hop, resolve, Deferred.ofValue, invoke, hcv, hargs, h1]
  rw [e1]
  refine ⟨fun e => (Bool.false_ne_true e).elim, h2.mono fun e w' hR => ?_⟩
  obtain ⟨v, rfl, h3⟩ := h e w' hR
  exact h3
end steps
end
end Go.Proofs.YtokcgnbjkbhmiaaDoor
