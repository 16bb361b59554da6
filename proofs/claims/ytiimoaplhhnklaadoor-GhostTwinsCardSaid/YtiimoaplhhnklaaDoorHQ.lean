/- The document's ghosts: New, Written, Held, Wrote. -/
import Derived.Test.YtiimoaplhhnklaaDoorHP
namespace Go.Proofs.YtiimoaplhhnklaaDoor
open Go.RowKit
set_option maxHeartbeats 4000000
set_option maxRecDepth 100000
set_option linter.unusedSimpArgs false
set_option linter.unusedVariables false
attribute [local go_sem ↓] eql_entE neq_entE
attribute [-go_sem] Builtin.append_
theorem en_r9Pairs : Enters Tryd.prog 35 := ⟨_, Tryd.func35, by kernel_rfl, rfl⟩
def rfp (rb : Nat) (rv : Value) : List Nat := rb :: rv.ownBlock.toList
section
variable {B : Nat} {w w' : World} {rb : Nat} {rv : Value} {A : List Ent} {sv : Nat → Value} {ls : Nat → List Ent}
end
end Go.Proofs.YtiimoaplhhnklaaDoor
