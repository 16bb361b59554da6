/- TimerScript: whatever script is handed in, the law returns true, and the argument reads afterwards as before. No condition. -/
import Derived.Test.YtiimoaplhhnklaaRows
import Derived.Test.YtiimoaplhhnklaaSW
import Derived.Test.YtiimoaplhhnklaaOp1
import Derived.Test.YtiimoaplhhnklaaLift
namespace Go.Proofs.Ytiimoaplhhnklaa
open Go.RowKit Go.ChangeShapes Go.WideShapes Go.ChangeAt Go.Joins
set_option maxHeartbeats 4000000
set_option maxRecDepth 100000
set_option linter.unusedSimpArgs false
set_option linter.unusedVariables false

theorem timerScript_lifted (os : Os) (started : os.Started) (H : Type) (enc : TypeId × Value → H) :
    ReturnsInHanded {} Try.checked os 6 .any (Rows.timerScriptSpec.pre6 enc Try.prog Try.f6 Rows.timerScriptRow.domain false) (Rows.timerScriptSpec.post enc Try.prog Try.f6 false true false false) := by
  refine law_lift (C := Try.checked) (tb := 4) ownNone started (by kernel_rfl) Try.func6
    (ChangeSpec.witness6 (enc := enc) (C := Try.checked) false ⟨#[], #[.slice none 0 0], []⟩ 8 (by kernel_rfl) (by kernel_rfl) (by kernel_rfl) (by kernel_rfl))
    rfl (fun ds h => ?_) (by rfl) Try.underlying4 (by kernel_rfl) ?_ ?_
  · match ds, h with
    | [_], _ => rfl
  · intro t ht
    have e : t = 62 := by
      have : Try.f6.params.toList = [62] := by rfl
      rw [this] at ht; simpa using ht
    subst e
    exact ⟨by kernel_rfl, of_decide_eq_true (by kernel_rfl)⟩
  · intro W base args ds ps hval hA hw
    have hp : Try.f6.params = #[62] := by rfl
    rw [hp] at hA hval hw
    obtain ⟨v0, d0, rfl, rfl, h0⟩ := trodAll_one hA
    obtain ⟨L, hL⟩ := open_opsV (hval 0 62 v0 rfl rfl) h0 (fun m hm => by
      have := List.all_eq_true.1 hw m (DataW.weights_mem_each (j := 0) rfl rfl m hm)
      simpa using this)
    exact timerScript_walk L v0 W hL

theorem timerScript_over : Rows.timerScriptRow.holds Try.pinned (OpenSpec.ofChange Rows.timerScriptSpec) :=
  OpenClaim.holds_of_wide 6 Try.f6 rfl rfl rfl rfl rfl rfl rfl ⟨rfl, rfl, rfl, rfl, rfl⟩ rfl rfl rfl rfl rfl (by kernel_rfl) Try.func6 (by kernel_rfl)
    (of_decide_eq_true (by kernel_rfl)) (by unfold Func.isWrapper; first | (rw [if_pos (by decide +kernel)]; kernel_rfl) | (rw [if_neg (by decide +kernel)]; exact ⟨rfl, rfl⟩))
    (fun os started H enc _ => timerScript_lifted os started H enc)

theorem timerScript_holds : Rows.TimerScriptSaid := timerScript_over
#print axioms timerScript_holds
end Go.Proofs.Ytiimoaplhhnklaa
