/- A fork of a plan. -/
import Derived.Test.YtokcgnbjkbhmiaaDoorReg
namespace Go.Proofs.YtokcgnbjkbhmiaaDoor
open Go.RowKit
section
variable {P : Program} {ops : Array Oper} {Q : Exit → Act → World → Prop} {E : World → World → Prop} {fl : Nat → Bool} {i : Nat} {p q : Plan} {a : Act} {w : World}
theorem plan_fork (h : wpPlan P ops Q E fl (.alt i p .stop) a w) (hq : wpPlan P ops Q E fl q a w) : wpPlan P ops Q E fl (.alt i p q) a w := ⟨h.1, hq⟩
end
end Go.Proofs.YtokcgnbjkbhmiaaDoor
