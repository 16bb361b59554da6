/- A region that draws its order, by a plan, inside a round of a range over a function (the fence wide). A region that draws its order, by a plan with calm operations, inside a round of a range over a function. -/
import Derived.Test.YtokcgnbjkbhmiaaDoorReg
import Derived.OrdersIn
import Derived.Test.YtokcgnbjkbhmiaaDoorReg3
namespace Go.Proofs.YtokcgnbjkbhmiaaDoor
open Go.RowKit
section
variable {P : Program} {ops : Array Oper} {Q : Exit → Act → World → Prop} {md : Region.Mode} {E : World → World → Prop}

theorem oper_round {o : Oper} {a : Act} {w : World} {K : Act → World → Prop} {l n : Nat} (hnd : ∀ c, o.op ≠ .defer c) (h : o.wp P a w K Q) : o.wpIn (Fence.wide.inRound l) n P a w K Q := by
  refine ⟨fun _ _ => trivial, ?_⟩
  rw [Oper.semAt_eq _ _ _ hnd]
  unfold Oper.wp at h
  generalize (execOp a.eval o).run P w = r at h ⊢
  match r, h with
  | .ok (.value v) w', h => exact h
  | .ok .skip w', h => exact h
  | .ok (.defer d) w', h => exact h
  | .ok (.enter f args) w', h => exact ⟨fun e => (Bool.false_ne_true e).elim, (callsIn_wide (n := n - 1)).2 h⟩
  | .ok (.row row args) w', h => exact ⟨fun e => (Bool.false_ne_true e).elim, fun c cs _ => let ⟨v, w2, r, s⟩ := h c cs; ⟨v, w2, r, stepsIn_wide.2 s⟩⟩
  | .ok (.round l f tmps assign body) w', h => exact h.elim
  | .halt (.panic v) w', h => exact h
def noDefer (ops : Array Oper) : Bool := ops.all fun o => match o.op with | .defer _ => false | _ => true
theorem noDefer_at (h : noDefer ops = true) {i : Nat} {o : Oper} (ho : ops[i]? = some o) : ∀ c, o.op ≠ .defer c := fun c e => by
  unfold noDefer at h
  rw [Array.all_eq_true] at h
  obtain ⟨hi, e1⟩ := Array.getElem?_eq_some_iff.1 ho
  have h1 := h i hi
  rw [e1, e] at h1
  cases h1
theorem wpAnyIn_round {l n : Nat} (hQ : ¬ LetsOut Q) (hnd : noDefer ops = true) : ∀ (fuel : Nat) (listed : Array Bool) (a : Act) (w : World), wpAny P md ops Q fuel listed a w → wpAnyIn (Fence.wide.inRound l) n P md ops Q fuel listed a w
  | 0, _, _, _, h => h
  | fuel + 1, listed, a, w, h => ⟨h.1, fun i hi => by
    have h1 := h.2 i hi
    unfold wpOp at h1
    unfold wpOpIn
    cases ho : ops[i]? with
    | none => rw [ho] at h1; exact wpAnyIn_round hQ hnd fuel _ a w h1
    | some o =>
      rw [ho] at h1
      dsimp only at h1 ⊢
      split
      · rename_i hw
        rw [if_pos hw] at h1
        rcases h1 with h1 | ⟨-, h1⟩
        · exact oper_round (noDefer_at hnd ho) (Oper.wp_mono (fun a w => wpAnyIn_round hQ hnd fuel _ a w) h1)
        · exact absurd h1 hQ
      · rename_i hw
        rw [if_neg hw] at h1
        exact ⟨fun _ _ => trivial, wpAnyIn_round hQ hnd fuel _ _ w h1⟩⟩
theorem wpIn_region_round {l : List Oper} {id lp n : Nat} {a : Act} {w : World} (fl : Nat → Bool) (p : Plan) (hm : P.follows .mixedOrders = true) (hp : p.fits l.toArray fl = true)
    (hQ : ∀ c a w d v, Q (.panic c) (Act.put a d v) w → Q (.panic c) a w) (hnd : noDefer l.toArray = true) (hO : ¬ LetsOut Q)
    (h : ∀ ops : Array Oper, Hid (ops = l.toArray) → wpPlan P ops Q Ext fl p a w.drew) : (Code.region id l.toArray true).wpIn (Fence.wide.inRound lp) n P Q a w := by
  simp only [Plan.fits, Bool.and_eq_true, decide_eq_true_eq] at hp
  exact wpIn_region_any hm (wpAnyIn_round hO hnd _ _ _ _ (wpAny_of_E _ _ _ _ ((wpAnyE_plan Ext.refl Ext.trans hp.1.1 hQ p).1 _ _ _ _ hp.2 hp.1.2 (h _ rfl))))
end
end Go.Proofs.YtokcgnbjkbhmiaaDoor
namespace Go.Proofs.YtokcgnbjkbhmiaaDoor
open Go.RowKit
section
variable {P : Program} {ops : Array Oper} {Q : Exit → Act → World → Prop}
theorem wpIn_region_roundC {l : List Oper} {id lp n : Nat} {a : Act} {w : World} (E : World → World → Prop) (fl cal : Nat → Bool) (p : Plan) (hm : P.follows .mixedOrders = true) (hp : p.fitsC l.toArray fl cal = true)
    (hr0 : ∀ w, E w w) (ht : ∀ a b c, E a b → E b c → E a c) (hQ : ∀ c a w d v, Q (.panic c) (Act.put a d v) w → Q (.panic c) a w) (hnd : noDefer l.toArray = true) (hO : ¬ LetsOut Q)
    (h : ∀ ops : Array Oper, Hid (ops = l.toArray) → wpPlanC P ops Q E fl cal p a w.drew) : (Code.region id l.toArray true).wpIn (Fence.wide.inRound lp) n P Q a w := by
  simp only [Plan.fitsC, Bool.and_eq_true, decide_eq_true_eq] at hp
  exact wpIn_region_any hm (wpAnyIn_round hO hnd _ _ _ _ (wpAny_of_E _ _ _ _ ((wpAnyE_planC hr0 ht hp.1.1 hQ p).1 _ _ _ _ hp.2 hp.1.2 (h _ rfl))))
end
end Go.Proofs.YtokcgnbjkbhmiaaDoor
