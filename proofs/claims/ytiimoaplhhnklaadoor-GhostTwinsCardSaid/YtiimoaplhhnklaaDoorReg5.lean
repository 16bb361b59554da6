/- A region that draws its order, by a plan with calm operations, inside a round of a range over a function. -/
import Derived.Test.YtiimoaplhhnklaaDoorReg3
import Derived.Test.YtiimoaplhhnklaaDoorReg4
namespace Go.Proofs.YtiimoaplhhnklaaDoor
open Go.RowKit
section
variable {P : Program} {ops : Array Oper} {Q : Exit → Act → World → Prop}
theorem wpIn_region_roundC {l : List Oper} {id lp n : Nat} {a : Act} {w : World} (E : World → World → Prop) (fl cal : Nat → Bool) (p : Plan) (hm : P.follows .mixedOrders = true) (hp : p.fitsC l.toArray fl cal = true)
    (hr0 : ∀ w, E w w) (ht : ∀ a b c, E a b → E b c → E a c) (hQ : ∀ c a w d v, Q (.panic c) (Act.put a d v) w → Q (.panic c) a w) (hnd : noDefer l.toArray = true) (hO : ¬ LetsOut Q)
    (h : ∀ ops : Array Oper, Hid (ops = l.toArray) → wpPlanC P ops Q E fl cal p a w.drew) : (Code.region id l.toArray true).wpIn (Fence.wide.inRound lp) n P Q a w := by
  simp only [Plan.fitsC, Bool.and_eq_true, decide_eq_true_eq] at hp
  exact wpIn_region_any hm (wpAnyIn_round hO hnd _ _ _ _ (wpAny_of_E _ _ _ _ ((wpAnyE_planC hr0 ht hp.1.1 hQ p).1 _ _ _ _ hp.2 hp.1.2 (h _ rfl))))
end
end Go.Proofs.YtiimoaplhhnklaaDoor
