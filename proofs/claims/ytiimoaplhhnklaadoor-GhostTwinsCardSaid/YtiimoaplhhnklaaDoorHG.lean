/- Ghosts: merge's Above, where it is so. -/
import Derived.Test.YtiimoaplhhnklaaDoorHE
namespace Go.Proofs.YtiimoaplhhnklaaDoor
open Go.RowKit Go.Shelf
set_option maxHeartbeats 4000000
set_option maxRecDepth 100000
set_option linter.unusedSimpArgs false
set_option linter.unusedVariables false
attribute [local go_sem] Oper.semAt_some
attribute [local go_sem ↓] eql_entE neq_entE

structure AI (w : World) (X : World) : Prop where
  bl : Below w.heap.size w X
  b1 : Boxed X w.heap.size 4 (.bool false)
  b2 : Boxed X (w.heap.size + 1) 27 (.int .i64 0)
theorem AI.own {w : World} {B : Nat} (hB : w.heap.size ≤ B) : OwnFrom (β := Unit) B (fun _ X => AI w X) := fun s X Y row h hg hr => by
  have hr' : ∀ r, row = some r → ∃ o : Obj, X.heap[r]? = some o ∧ o.isCells = false := fun r e => (hr r e).2
  exact ⟨ownFrom_below (β := Unit) (Nat.le_refl _) hB s X Y row h.bl hg hr, boxed_own (β := Unit) _ _ (fun _ => _) s X Y row h.b1 hg hr', boxed_own (β := Unit) _ _ (fun _ => _) s X Y row h.b2 hg hr'⟩
theorem AI.ext {w X Y : World} (h : AI w X) (hx : Ext X Y) : AI w Y :=
  ⟨h.bl.trans (hx.below.mono h.bl.size), (hx.below.block _ h.b1.lt).trans h.b1, (hx.below.block _ h.b2.lt).trans h.b2⟩
end Go.Proofs.YtiimoaplhhnklaaDoor
