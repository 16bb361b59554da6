/- The document's ghosts: Sees. -/
import Derived.Test.YtiimoaplhhnklaaDoorHS
namespace Go.Proofs.YtiimoaplhhnklaaDoor
open Go.RowKit
set_option maxHeartbeats 4000000
set_option maxRecDepth 100000
set_option linter.unusedSimpArgs false
set_option linter.unusedVariables false
attribute [local go_sem ↓] eql_entE neq_entE
attribute [-go_sem] Builtin.append_

theorem gen_calls' {P : Program} {f : FuncId} {args : Array Value} {w : World} {Q : Ending → World → Prop} (R : World → Prop) (h0 : R w) (h : ∀ W, R W → Calls P f args W Q) : Calls P f args w Q := h w h0
theorem seesP_take {A : List Ent} {ps : List (Ent × Ent)} {k : Nat} (h : k < ps.length) (h0 : seesP A (ps.take k) = none) : (badP A ps[k] = none → seesP A (ps.take (k + 1)) = none) ∧ (∀ r, badP A ps[k] = some r → seesP A ps = some r) := by
  constructor
  · intro hb
    rw [List.take_succ_eq_append_getElem h, seesP, List.findSome?_append, show (ps.take k).findSome? (badP A) = none from h0]
    simp [hb]
  · intro r hb
    have hsp : ps = ps.take k ++ ps[k] :: ps.drop (k + 1) := by rw [← List.drop_eq_getElem_cons h, List.take_append_drop]
    unfold seesP
    conv => lhs; rw [hsp]
    rw [List.findSome?_append, show (ps.take k).findSome? (badP A) = none from h0, Option.none_or, List.findSome?_cons, hb]
end Go.Proofs.YtiimoaplhhnklaaDoor
