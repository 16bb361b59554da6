/- A region that draws its order, walked once: every operation that only reads is taken as early as it may come up. Over any program. -/
import Derived.Orders
import Derived.Below
namespace Go.Proofs.YtokcgnbjkbhmiaaDoor
open Go.RowKit

section
variable {P : Program} {ops : Array Oper} {Q : Exit → Act → World → Prop} {md : Region.Mode} {E : World → World → Prop}

/-- It hands back v and leaves the world as it was. -/
def QuietRun (P : Program) (s : Sem Next) (v : Value) (w : World) : Prop :=
  s.run P w = .ok (.value v) w ∨ ∃ f args, s.run P w = .ok (.enter f args) w ∧ Calls P f args w fun e w' => e = .returned v ∧ w = w'

def QuietAt (P : Program) (ops : Array Oper) (E : World → World → Prop) (w : World) (o : Oper) (v : Value) (a : Act) : Prop :=
  (Region.wanted o (yielded ops a.tmps) = true ∧ ∀ w', E w w' → QuietRun P (execOp a.eval o) v w') ∨
  (Region.wanted o (yielded ops a.tmps) = false ∧ v = undef)

theorem QuietAt.wpOp {i : Nat} {o : Oper} {v : Value} {a : Act} {w w' : World} (hi : ops[i]? = some o) (hy : QuietAt P ops E w o v a)
    {K : Act → World → Prop} (hE : E w w') (h : K (a.put o.dst v) w') : wpOp P ops Q i K a w' := by
  unfold Go.wpOp
  simp only [hi]
  rcases hy with ⟨hw, hv⟩ | ⟨hw, rfl⟩
  · simp only [hw, if_true]
    refine .inl ?_
    rcases hv w' hE with hr | ⟨f, args, hr, hc⟩
    · simp only [Oper.wp, hr, Oper.upon]; exact h
    · simp only [Oper.wp, hr, Oper.upon]
      refine hc.mono ?_
      rintro e w'' ⟨rfl, rfl⟩
      exact h
  · simp only [hw, Bool.false_eq_true, if_false]; exact h

theorem QuietAt.of_same {o : Oper} {v : Value} {a a' : Act} {w : World} (hy : QuietAt P ops E w o v a) (he : execOp a'.eval o = execOp a.eval o)
    (hw : Region.wanted o (yielded ops a'.tmps) = Region.wanted o (yielded ops a.tmps)) : QuietAt P ops E w o v a' := by
  unfold QuietAt at *
  rw [he, hw]
  exact hy

theorem QuietAt.later {o : Oper} {v : Value} {a : Act} {w w' : World} (ht : ∀ a b c, E a b → E b c → E a c) (hy : QuietAt P ops E w o v a) (hE : E w w') : QuietAt P ops E w' o v a :=
  hy.imp (fun ⟨h1, h2⟩ => ⟨h1, fun w'' h => h2 w'' (ht _ _ _ hE h)⟩) id

theorem wpOp_putE {j : Nat} {oi oj : Oper} {v : Value} (hj : ops[j]? = some oj) (hap : oi.apart ops oj = true)
    (hsi : ∀ cs b, oi.op ≠ .select cs b) (hsj : ∀ cs b, oj.op ≠ .select cs b)
    (hQ : ∀ c a w d v, Q (.panic c) (Act.put a d v) w → Q (.panic c) a w) {K : Act → World → Prop} {a : Act} {w w0 : World}
    (hy : QuietAt P ops E w0 oi v a) (h : wpOp P ops Q j K (a.put oi.dst v) w) :
    wpOp P ops Q j (fun a' w' => QuietAt P ops E w0 oi v a' ∧ K (a'.put oi.dst v) w') a w := by
  obtain ⟨h1, h2, h3⟩ := Oper.apart_spec hap
  have keep : ∀ (a : Act), QuietAt P ops E w0 oi v a → ∀ u, QuietAt P ops E w0 oi v (a.put oj.dst u) := fun a hy u =>
    hy.of_same (execOp_put oi hsi a oj.dst u h3) (wanted_put oi a oj.dst u h3)
  have keepD : ∀ d, QuietAt P ops E w0 oi v { a with defers := d :: a.defers } := fun d => hy.of_same rfl rfl
  unfold wpOp at *
  simp only [hj] at *
  rw [wanted_put oj a oi.dst v h1] at h
  split
  · rename_i hw
    simp only [hw, if_true] at h
    rcases h with h | ⟨hasks, hlets⟩
    case inr => exact .inr ⟨by unfold Oper.asks at *; rw [execOp_put oj hsj a oi.dst v h1] at hasks; exact hasks, hlets⟩
    refine .inl ?_
    unfold Oper.wp at *
    rw [execOp_put oj hsj a oi.dst v h1] at h
    generalize (execOp a.eval oj).run P w = r at *
    cases r with
    | ok n w' =>
      cases n <;> simp only [Oper.upon] at h ⊢
      case value u => exact ⟨keep a hy u, by rw [← Act.put_comm a v u h2]; exact h⟩
      case skip => exact ⟨keep a hy _, by rw [← Act.put_comm a v undef h2]; exact h⟩
      case defer d =>
        refine ⟨keep _ (keepD d) _, ?_⟩
        rw [← Act.put_comm _ v undef h2, ← Act.put_defers]
        exact h
      case enter f args =>
        refine Calls.mono h fun e w'' he => ?_
        cases e with
        | returned u => exact ⟨keep a hy u, by rw [← Act.put_comm a v u h2]; exact he⟩
        | panicked c => exact hQ _ _ _ _ _ he
        | outgrown => exact he
      case row row args => exact Rows.mono h fun u w'' he => ⟨keep a hy u, by rw [← Act.put_comm a v u h2]; exact he⟩
    | halt x w' =>
      cases x <;> simp only [Oper.upon] at h ⊢
      case panic u => exact hQ _ _ _ _ _ h
  · rename_i hw
    simp only [hw] at h
    exact ⟨keep a hy _, by rw [← Act.put_comm a v undef h2]; exact h⟩

/-- Whatever order is picked from here on; behind an operation with a flag the world stands in E to what it was. -/
def wpAnyE (P : Program) (md : Region.Mode) (ops : Array Oper) (Q : Exit → Act → World → Prop) (E : World → World → Prop) (fl : Nat → Bool) : Nat → Array Bool → Act → World → Prop
  | 0, listed, a, w => Region.ready md ops listed = [] ∧ Q .normal a w
  | fuel + 1, listed, a, w =>
    (Region.ready md ops listed = [] → Q .normal a w) ∧
    ∀ i ∈ Region.ready md ops listed, wpOp P ops Q i (fun a' w' => (fl i = true → E w w') ∧ wpAnyE P md ops Q E fl fuel (listed.setIfInBounds i true) a' w') a w

theorem wpAny_of_E {fl : Nat → Bool} : ∀ (fuel : Nat) (listed : Array Bool) (a : Act) (w : World), wpAnyE P md ops Q E fl fuel listed a w → wpAny P md ops Q fuel listed a w
  | 0, _, _, _, h => h
  | fuel + 1, _, _, _, h => ⟨h.1, fun i hi => wpOp_mono (fun a' w' h' => wpAny_of_E fuel _ a' w' h'.2) (h.2 i hi)⟩

theorem wpAnyE_first {fl : Nat → Bool} (hr0 : ∀ w, E w w) (ht : ∀ a b c, E a b → E b c → E a c) {i : Nat} {oi : Oper} {v : Value} (hi : ops[i]? = some oi) (hsel : ∀ (j : Nat) (o : Oper) cs b, ops[j]? = some o → o.op ≠ .select cs b)
    (hQ : ∀ c a w d v, Q (.panic c) (Act.put a d v) w → Q (.panic c) a w) :
    ∀ (fuel : Nat) (listed : Array Bool) (a : Act) (w : World),
      (∀ j oj, ops[j]? = some oj → j ≠ i → listed.getD j true = false → (∀ e ∈ oj.after, Region.binds md e = true → e.on ≠ i) → oi.apart ops oj = true ∧ fl j = true) →
      i ∈ Region.ready md ops listed → QuietAt P ops E w oi v a →
      wpAnyE P md ops Q E fl fuel (listed.setIfInBounds i true) (a.put oi.dst v) w → wpAnyE P md ops Q E fl (fuel + 1) listed a w := by
  intro fuel
  induction fuel with
  | zero =>
    intro listed a w _ hr hy H
    refine ⟨fun h => (by rw [h] at hr; cases hr), fun j hj => ?_⟩
    by_cases hji : j = i
    · subst hji; exact hy.wpOp hi (hr0 _) ⟨fun _ => hr0 _, H⟩
    · have := ready_mono hj hji
      rw [H.1] at this
      cases this
  | succ fuel ih =>
    intro listed a w hfree hr hy H
    refine ⟨fun h => (by rw [h] at hr; cases hr), fun j hj => ?_⟩
    by_cases hji : j = i
    · subst hji; exact hy.wpOp hi (hr0 _) ⟨fun _ => hr0 _, H⟩
    · have h1 := H.2 j (ready_mono hj hji)
      obtain ⟨hjun, oj, hoj, hall⟩ := mem_ready.1 hj
      have hnot : ∀ e ∈ oj.after, Region.binds md e = true → e.on ≠ i := fun e he hb heq => by
        have h1 := hall e he hb
        have h0 := (mem_ready.1 hr).1
        rw [heq] at h1
        rcases Nat.lt_or_ge i listed.size with h' | h'
        · simp [h'] at h0 h1; rw [h0] at h1; cases h1
        · simp [Array.getElem?_eq_none h'] at h1
      obtain ⟨hap, hfl⟩ := hfree j oj hoj hji hjun hnot
      have h2 := wpOp_putE hoj hap (fun cs b => hsel i oi cs b hi) (fun cs b => hsel j oj cs b hoj) hQ hy h1
      have hfree' : ∀ k ok, ops[k]? = some ok → k ≠ i → (listed.setIfInBounds j true).getD k true = false →
          (∀ e ∈ ok.after, Region.binds md e = true → e.on ≠ i) → oi.apart ops ok = true ∧ fl k = true := fun k ok hk hki hun hno => by
        refine hfree k ok hk hki ?_ hno
        by_cases hjk : j = k
        · subst hjk; exact hjun
        · rw [getD_set_ne true hjk] at hun; exact hun
      refine wpOp_mono (fun a' w' h3 => ⟨h3.2.1, ih (listed.setIfInBounds j true) a' w' hfree' (ready_mono hr (Ne.symm hji)) (h3.1.later ht (h3.2.1 hfl)) ?_⟩) h2
      rw [Array.setIfInBounds_comm _ _ hji]
      exact h3.2.2

/-- In which order the operations are taken: 'quiet i': number i is taken now, though others may come up; 'alt i p q': number i may come up now (behind it p), or one of those of q. -/
inductive Plan where
  | done
  | stop
  | quiet (i : Nat) (p : Plan)
  | alt (i : Nat) (p q : Plan)

def Plan.heads : Plan → List Nat
  | .alt i _ q => i :: q.heads
  | _ => []

def Region.freeE (md : Region.Mode) (ops : Array Oper) (fl : Nat → Bool) (listed : Array Bool) (i : Nat) : Bool :=
  match ops[i]? with
  | none => false
  | some oi => (List.range ops.size).all fun j => j == i || listed.getD j true || match ops[j]? with
      | some oj => oj.after.any (fun e => Region.binds md e && e.on == i) || (oi.apart ops oj && fl j)
      | none => true

theorem Region.freeE_spec {fl : Nat → Bool} {i : Nat} {oi : Oper} {listed : Array Bool} (hi : ops[i]? = some oi) (h : Region.freeE md ops fl listed i = true) (j : Nat) (oj : Oper)
    (hj : ops[j]? = some oj) (hne : j ≠ i) (hun : listed.getD j true = false) (hno : ∀ e ∈ oj.after, Region.binds md e = true → e.on ≠ i) :
    oi.apart ops oj = true ∧ fl j = true := by
  simp only [Region.freeE, hi, List.all_eq_true, List.mem_range] at h
  have h1 := h j (Array.getElem?_eq_some_iff.1 hj).1
  simp only [hj, Bool.or_eq_true, beq_iff_eq, hne, false_or, hun, Bool.false_eq_true, Bool.and_eq_true] at h1
  rcases h1 with h1 | h1
  · obtain ⟨e, he, hb⟩ := Array.any_eq_true'.1 h1
    simp only [Bool.and_eq_true, beq_iff_eq] at hb
    exact absurd hb.2 (hno e he hb.1)
  · exact h1

/-- b: in the midst of a row of 'alt's. -/
def Plan.okG (md : Region.Mode) (ops : Array Oper) (fl : Nat → Bool) : Bool → Plan → Array Bool → Bool
  | false, .done, listed => (Region.ready md ops listed).isEmpty
  | false, .quiet i p, listed => (Region.ready md ops listed).contains i && Region.freeE md ops fl listed i && p.okG md ops fl false (listed.setIfInBounds i true)
  | false, .alt i p q, listed => (Region.ready md ops listed).all (fun j => (i :: q.heads).contains j) && !(Region.ready md ops listed).isEmpty && p.okG md ops fl false (listed.setIfInBounds i true) && q.okG md ops fl true listed
  | false, .stop, _ => false
  | true, .alt i p q, listed => p.okG md ops fl false (listed.setIfInBounds i true) && q.okG md ops fl true listed
  | true, .stop, _ => true
  | true, _, _ => false

/-- What is to be shown, operation by operation. -/
def wpPlan (P : Program) (ops : Array Oper) (Q : Exit → Act → World → Prop) (E : World → World → Prop) (fl : Nat → Bool) : Plan → Act → World → Prop
  | .done, a, w => Q .normal a w
  | .stop, _, _ => True
  | .quiet i p, a, w => ∃ o v, ops[i]? = some o ∧ QuietAt P ops E w o v a ∧ wpPlan P ops Q E fl p (a.put o.dst v) w
  | .alt i p q, a, w => wpOp P ops Q i (fun a' w' => (fl i = true → E w w') ∧ wpPlan P ops Q E fl p a' w') a w ∧ wpPlan P ops Q E fl q a w

def Plan.depth : Plan → Nat
  | .done => 0
  | .stop => 0
  | .quiet _ p => p.depth + 1
  | .alt _ p q => max (p.depth + 1) q.depth

theorem wpAnyE_done {fl : Nat → Bool} {listed : Array Bool} {a : Act} {w : World} (hr : Region.ready md ops listed = []) (h : Q .normal a w) : ∀ fuel, wpAnyE P md ops Q E fl fuel listed a w
  | 0 => ⟨hr, h⟩
  | _ + 1 => ⟨fun _ => h, by rw [hr]; simp⟩

theorem wpAnyE_plan {fl : Nat → Bool} (hr0 : ∀ w, E w w) (ht : ∀ a b c, E a b → E b c → E a c) (hs : Region.noSelect ops = true)
    (hQ : ∀ c a w d v, Q (.panic c) (Act.put a d v) w → Q (.panic c) a w) : ∀ (p : Plan),
    (∀ (fuel : Nat) (listed : Array Bool) (a : Act) (w : World), p.okG md ops fl false listed = true → p.depth ≤ fuel → wpPlan P ops Q E fl p a w → wpAnyE P md ops Q E fl fuel listed a w) ∧
    (∀ (fuel : Nat) (listed : Array Bool) (a : Act) (w : World), p.okG md ops fl true listed = true → p.depth ≤ fuel + 1 → wpPlan P ops Q E fl p a w →
      ∀ i ∈ p.heads, wpOp P ops Q i (fun a' w' => (fl i = true → E w w') ∧ wpAnyE P md ops Q E fl fuel (listed.setIfInBounds i true) a' w') a w) := by
  intro p
  induction p with
  | done =>
    refine ⟨fun fuel listed a w hok _ h => ?_, fun fuel listed a w hok _ _ => by simp [Plan.okG] at hok⟩
    exact wpAnyE_done (by simpa [Plan.okG] using hok) h fuel
  | stop => exact ⟨fun fuel listed a w hok _ _ => by simp [Plan.okG] at hok, fun fuel listed a w _ _ _ i hi => by simp [Plan.heads] at hi⟩
  | quiet i p ih =>
    refine ⟨fun fuel listed a w hok hd h => ?_, fun fuel listed a w hok _ _ => by simp [Plan.okG] at hok⟩
    obtain ⟨o, v, hi, hy, hp⟩ := h
    simp only [Plan.okG, Bool.and_eq_true] at hok
    obtain ⟨⟨h1, h2⟩, h3⟩ := hok
    simp only [Plan.depth] at hd
    obtain ⟨f, rfl⟩ : ∃ f, fuel = f + 1 := ⟨fuel - 1, by omega⟩
    exact wpAnyE_first hr0 ht hi (Region.noSelect_spec hs) hQ f listed a w (Region.freeE_spec hi h2) (by simpa using h1) hy (ih.1 f _ _ _ h3 (by omega) hp)
  | alt i p q ihp ihq =>
    constructor
    · intro fuel listed a w hok hd h
      simp only [Plan.okG, Bool.and_eq_true, List.all_eq_true, Bool.not_eq_true'] at hok
      obtain ⟨⟨⟨h1, h2⟩, h3⟩, h4⟩ := hok
      simp only [Plan.depth] at hd
      obtain ⟨f, rfl⟩ : ∃ f, fuel = f + 1 := ⟨fuel - 1, by omega⟩
      refine ⟨fun h0 => (by rw [h0] at h2; cases h2), fun j hj => ?_⟩
      have hj' := h1 j hj
      by_cases hji : j = i
      · subst hji
        exact wpOp_mono (fun a' w' hh => ⟨hh.1, ihp.1 f _ _ _ h3 (by omega) hh.2⟩) h.1
      · have hq : j ∈ q.heads := by
          simp only [List.contains_eq_mem, List.mem_cons, decide_eq_true_eq] at hj'
          exact hj'.resolve_left hji
        exact ihq.2 f listed a w h4 (by omega) h.2 j hq
    · intro fuel listed a w hok hd h k hk
      simp only [Plan.okG, Bool.and_eq_true] at hok
      simp only [Plan.depth] at hd
      rcases List.mem_cons.1 hk with rfl | hk
      · exact wpOp_mono (fun a' w' hh => ⟨hh.1, ihp.1 fuel _ _ _ hok.1 (by omega) hh.2⟩) h.1
      · exact ihq.2 fuel listed a w hok.2 (by omega) h.2 k hk

/-- All that is asked of a plan, as one Bool. -/
def Plan.fits (ops : Array Oper) (fl : Nat → Bool) (p : Plan) : Bool :=
  Region.noSelect ops && decide (p.depth ≤ ops.size) && p.okG .any ops fl false (Array.replicate ops.size false)

/-- **A region that draws its order, by a plan.** -/
theorem wp_region_plan {id : Nat} {a : Act} {w : World} (fl : Nat → Bool) (p : Plan) (hm : P.follows .mixedOrders = true) (hp : p.fits ops fl = true)
    (hr0 : ∀ w, E w w) (ht : ∀ a b c, E a b → E b c → E a c) (hQ : ∀ c a w d v, Q (.panic c) (Act.put a d v) w → Q (.panic c) a w)
    (h : wpPlan P ops Q E fl p a w.drew) : (Code.region id ops true).wp P Q a w := by
  simp only [Plan.fits, Bool.and_eq_true, decide_eq_true_eq] at hp
  exact wp_region_any hm (wpAny_of_E _ _ _ _ ((wpAnyE_plan hr0 ht hp.1.1 hQ p).1 _ _ _ _ hp.2 hp.1.2 h))

/-- Nothing that is there is changed. -/
def Ext (w w' : World) : Prop := Below w.heap.size w w'
theorem Ext.below {w w' : World} (h : Ext w w') : Below w.heap.size w w' := h
theorem Ext.of {w w' : World} (h : Below w.heap.size w w') : Ext w w' := h
theorem Ext.refl (w : World) : Ext w w := Below.refl _ _
theorem Ext.trans (a b c : World) (h : Ext a b) (k : Ext b c) : Ext a c := Below.trans h (Below.mono k h.size)
theorem Ext.cells {W w1 : World} (hb : Ext W w1) : (∀ b o, b < W.heap.size → w1.cell? ⟨b, o, none⟩ = W.cell? ⟨b, o, none⟩) ∧ (∀ b o, b < W.heap.size → w1.frozen? ⟨b, o, none⟩ = W.frozen? ⟨b, o, none⟩) :=
  ⟨fun b o h => Below.cell hb (p := ⟨b, o, none⟩) h, fun b o h => Below.frozen hb (p := ⟨b, o, none⟩) h⟩
theorem Ext.hc {W w1 : World} (hb : Ext W w1) : ∀ b o, b < W.heap.size → w1.cell? ⟨b, o, none⟩ = W.cell? ⟨b, o, none⟩ := hb.cells.1
theorem Ext.hf {W w1 : World} (hb : Ext W w1) : ∀ b o, b < W.heap.size → w1.frozen? ⟨b, o, none⟩ = W.frozen? ⟨b, o, none⟩ := hb.cells.2
theorem Ext.hl {W w1 : World} (hb : Ext W w1) : ∀ k, k < W.heap.size → k < w1.heap.size := fun _ h => Nat.lt_of_lt_of_le h hb.below.size
theorem Ext.hle {W w1 : World} (hb : Ext W w1) : ∀ k, k < W.heap.size → k ≤ w1.heap.size := fun _ h => Nat.le_of_lt (hb.hl _ h)
theorem Ext.hne {W w1 : World} (hb : Ext W w1) : ∀ k, k < W.heap.size → ¬ k = w1.heap.size := fun _ h => Nat.ne_of_lt (hb.hl _ h)
theorem Ext.alloc {w w' : World} (h : Ext w w') (o : Obj) : Ext w (w'.alloc o) := Below.alloc h (Below.size h) o
theorem Ext.drew_left {w w' : World} (h : Ext w w') : Ext w.drew w' := ⟨h.below.os, h.below.tape, h.below.output, h.below.size, h.below.block⟩
theorem Ext.unD {w w' : World} (h : Ext w.drew w') : Ext w w' := ⟨h.below.os, h.below.tape, h.below.output, h.below.size, h.below.block⟩
theorem Ext.drew {w w' : World} (h : Ext w w') : Ext w w'.drew := Below.drew h

/-- The same where nothing that is there is changed. -/
theorem wp_region_below {id : Nat} {a : Act} {w : World} (fl : Nat → Bool) (p : Plan) (hm : P.follows .mixedOrders = true) (hp : p.fits ops fl = true)
    (hQ : ∀ c a w d v, Q (.panic c) (Act.put a d v) w → Q (.panic c) a w)
    (h : wpPlan P ops Q Ext fl p a w.drew) : (Code.region id ops true).wp P Q a w :=
  wp_region_plan fl p hm hp Ext.refl Ext.trans hQ h

/-- The same, the operations behind a letter. -/
theorem wp_region_held_below {l : List Oper} {id : Nat} {a : Act} {w : World} (fl : Nat → Bool) (p : Plan) (hm : P.follows .mixedOrders = true) (hp : p.fits l.toArray fl = true)
    (hQ : ∀ c a w d v, Q (.panic c) (Act.put a d v) w → Q (.panic c) a w)
    (h : ∀ ops : Array Oper, Hid (ops = l.toArray) → wpPlan P ops Q Ext fl p a w.drew) : (Code.region id l.toArray true).wp P Q a w :=
  wp_region_below fl p hm hp hQ (h _ rfl)
theorem wp_region_held_plan {l : List Oper} {id : Nat} {a : Act} {w : World} (E : World → World → Prop) (fl : Nat → Bool) (p : Plan) (hm : P.follows .mixedOrders = true) (hp : p.fits l.toArray fl = true)
    (hr0 : ∀ w, E w w) (ht : ∀ a b c, E a b → E b c → E a c) (hQ : ∀ c a w d v, Q (.panic c) (Act.put a d v) w → Q (.panic c) a w)
    (h : ∀ ops : Array Oper, Hid (ops = l.toArray) → wpPlan P ops Q E fl p a w.drew) : (Code.region id l.toArray true).wp P Q a w :=
  wp_region_plan fl p hm hp hr0 ht hQ (h _ rfl)

/-- Function f has a body of its own. -/
def Enters (P : Program) (f : FuncId) : Prop := ∃ fn, P.funcs[f]? = some fn ∧ (fn.name == "runtime.NumGoroutine") = false ∧ fn.body.isSome = true

theorem run_call {f : FuncId} (he : Enters P f) {o : Oper} {as : Array Operand} {ts : Array TypeId} (hop : o.op = .call { callee := .value (.func f), args := as, argTypes := ts })
    {a : Act} {args : Array Value} (hargs : as.map a.eval = args) (w : World) : (execOp a.eval o).run P w = .ok (.enter f args) w := by
  obtain ⟨fn, hf, hname, hb⟩ := he
  have h1 : fn.name ≠ "runtime.NumGoroutine" := by simpa using hname
  obtain ⟨c, hc⟩ := Option.isSome_iff_exists.1 hb
  have he' : (callFunc f args).run P w = .ok (.enter f args) w := by simp [callFunc, hf, h1, hc]
  unfold execOp
  simp [hop, resolve, Deferred.ofValue, invoke, Act.eval, hargs, he']

theorem hid_mk {p : Prop} (h : p) : Hid p := h

theorem ret_int {k : IntKind} {a b : Int} (h : a = b) : Ending.returned (.int k a) = .returned (.int k b) := by rw [h]
theorem wrapN (n : Nat) (h : n ≤ 4611686018427387904) : IntKind.i64.wrap (n : Int) = n := by rw [IntKind.wrap_i64]; omega
theorem wrapZ (n : Int) (h : -4611686018427387904 ≤ n ∧ n ≤ 4611686018427387904) : IntKind.i64.wrap n = n := by rw [IntKind.wrap_i64]; omega
theorem ret_bool {a b : Bool} (h : a = b) : Ending.returned (.bool a) = .returned (.bool b) := by rw [h]

theorem hi_of {ops : Array Oper} {l : List Oper} {i : Nat} {o : Oper} (HO : Hid (ops = l.toArray)) (h : l[i]? = some o) : ops[i]? = some o := by rw [HO.out]; simpa using h

/-! ### The steps -/
section steps
variable {fl : Nat → Bool} {i : Nat} {p q : Plan} {a : Act} {w : World} {o : Oper} {v : Value}
theorem plan_read (v : Value) (hi : ops[i]? = some o) (hw : Region.wanted o (yielded ops a.tmps) = true) (hv : ∀ w', E w w' → (execOp a.eval o).run P w' = .ok (.value v) w')
    (h : wpPlan P ops Q E fl p (a.put o.dst v) w) : wpPlan P ops Q E fl (.quiet i p) a w :=
  ⟨o, v, hi, .inl ⟨hw, fun w' hE => .inl (hv w' hE)⟩, h⟩
/-- A bool on which others hang: for its two values apart. -/
theorem plan_bool (b : Bool) (hi : ops[i]? = some o) (hw : Region.wanted o (yielded ops a.tmps) = true) (hv : ∀ w', E w w' → (execOp a.eval o).run P w' = .ok (.value (.bool b)) w')
    (h : ∀ c : Bool, c = b → wpPlan P ops Q E fl p (a.put o.dst (.bool c)) w) : wpPlan P ops Q E fl (.quiet i p) a w :=
  ⟨o, .bool b, hi, .inl ⟨hw, fun w' hE => .inl (hv w' hE)⟩, h b rfl⟩
theorem plan_boolc (b : Bool) (hi : ops[i]? = some o) (hw : Region.wanted o (yielded ops a.tmps) = true) {v : Value} (hv : ∀ w', E w w' → (execOp a.eval o).run P w' = .ok (.value v) w') (hvb : v = .bool b)
    (hF : b = false → wpPlan P ops Q E fl p (a.put o.dst (.bool false)) w) (hT : b = true → wpPlan P ops Q E fl p (a.put o.dst (.bool true)) w) : wpPlan P ops Q E fl (.quiet i p) a w :=
  plan_bool b hi hw (hvb ▸ hv) fun c hc => (by cases c; exact hF hc.symm; exact hT hc.symm)
theorem plan_done (h : Q .normal a w) : wpPlan P ops Q E fl .done a w := h
theorem plan_stop : wpPlan P ops Q E fl .stop a w := trivial
theorem plan_skip (hi : ops[i]? = some o) (hw : Region.wanted o (yielded ops a.tmps) = false)
    (h : wpPlan P ops Q E fl p (a.put o.dst undef) w) : wpPlan P ops Q E fl (.quiet i p) a w :=
  ⟨o, undef, hi, .inr ⟨hw, rfl⟩, h⟩
theorem plan_pure (v : Value) {f : FuncId} {as : Array Operand} {ts : Array TypeId} {args : Array Value} (he : Enters P f) (hi : ops[i]? = some o) (hw : Region.wanted o (yielded ops a.tmps) = true)
    (hop : o.op = .call { callee := .value (.func f), args := as, argTypes := ts }) (hargs : as.map a.eval = args) (hc : ∀ w', E w w' → Calls P f args w' fun e w'' => e = .returned v ∧ w' = w'')
    (h : wpPlan P ops Q E fl p (a.put o.dst v) w) : wpPlan P ops Q E fl (.quiet i p) a w :=
  ⟨o, v, hi, .inl ⟨hw, fun w' hE => .inr ⟨f, args, run_call he hop hargs w', hc w' hE⟩⟩, h⟩
theorem plan_loud (hi : ops[i]? = some o) (hw : Region.wanted o (yielded ops a.tmps) = true)
    (h : o.wp P a w (fun a' w' => (fl i = true → E w w') ∧ wpPlan P ops Q E fl p a' w') Q) (hq : wpPlan P ops Q E fl q a w) : wpPlan P ops Q E fl (.alt i p q) a w := by
  refine ⟨?_, hq⟩
  unfold wpOp
  simp only [hi, hw, if_true]
  exact .inl h
theorem plan_loud_skip (hi : ops[i]? = some o) (hw : Region.wanted o (yielded ops a.tmps) = false) (hr : E w w)
    (h : wpPlan P ops Q E fl p (a.put o.dst undef) w) (hq : wpPlan P ops Q E fl q a w) : wpPlan P ops Q E fl (.alt i p q) a w := by
  refine ⟨?_, hq⟩
  unfold wpOp
  simp only [hi, hw, Bool.false_eq_true, if_false]
  exact ⟨fun _ => hr, h⟩
theorem plan_call {f : FuncId} {as : Array Operand} {ts : Array TypeId} {args : Array Value} {R : Ending → World → Prop} (he : Enters P f) (hi : ops[i]? = some o) (hw : Region.wanted o (yielded ops a.tmps) = true)
    (hop : o.op = .call { callee := .value (.func f), args := as, argTypes := ts }) (hargs : as.map a.eval = args) (hc : Calls P f args w R)
    (h : ∀ e w', R e w' → ∃ v, e = .returned v ∧ (fl i = true → E w w') ∧ wpPlan P ops Q E fl p (a.put o.dst v) w') (hq : wpPlan P ops Q E fl q a w) : wpPlan P ops Q E fl (.alt i p q) a w := by
  refine plan_loud hi hw ?_ hq
  unfold Oper.wp
  rw [run_call he hop hargs w]
  refine hc.mono fun e w' hR => ?_
  obtain ⟨v, rfl, h1, h2⟩ := h e w' hR
  exact ⟨h1, h2⟩
theorem plan_loud1 (hi : ops[i]? = some o) (hw : Region.wanted o (yielded ops a.tmps) = true)
    (h : o.wp P a w (fun a' w' => (fl i = true → E w w') ∧ wpPlan P ops Q E fl p a' w') Q) : wpPlan P ops Q E fl (.alt i p .stop) a w := plan_loud hi hw h plan_stop
theorem plan_skip1 (hi : ops[i]? = some o) (hw : Region.wanted o (yielded ops a.tmps) = false) (hr : E w w)
    (h : wpPlan P ops Q E fl p (a.put o.dst undef) w) : wpPlan P ops Q E fl (.alt i p .stop) a w := plan_loud_skip hi hw hr h plan_stop
theorem plan_call1 {f : FuncId} {as : Array Operand} {ts : Array TypeId} {args : Array Value} {R : Ending → World → Prop} (he : Enters P f) (hi : ops[i]? = some o) (hw : Region.wanted o (yielded ops a.tmps) = true)
    (hop : o.op = .call { callee := .value (.func f), args := as, argTypes := ts }) (hargs : as.map a.eval = args) (hc : Calls P f args w R)
    (h : ∀ e w', R e w' → ∃ v, e = .returned v ∧ (fl i = true → E w w') ∧ wpPlan P ops Q E fl p (a.put o.dst v) w') : wpPlan P ops Q E fl (.alt i p .stop) a w := plan_call he hi hw hop hargs hc h plan_stop
end steps

end
end Go.Proofs.YtokcgnbjkbhmiaaDoor
