/- FrameRises: whatever frame is handed in, the law returns true, and the argument reads afterwards as before. No condition. -/
import Derived.Test.YtgglbohcnlcagaaRows
import Derived.Test.YtgglbohcnlcagaaFQ
import Derived.Test.YtgglbohcnlcagaaFO
import Derived.Test.YtgglbohcnlcagaaLift
namespace Go.Proofs.Ytgglbohcnlcagaa
open Go.RowKit Go.ChangeShapes Go.WideShapes Go.ChangeAt Go.Joins
set_option maxHeartbeats 4000000
set_option maxRecDepth 100000
set_option linter.unusedSimpArgs false
set_option linter.unusedVariables false

theorem ownR : ownKnob Try.prog.godebug = none := by kernel_rfl
theorem frameRises_lifted (os : Os) (started : os.Started) (H : Type) (enc : TypeId × Value → H) :
    ReturnsInHanded {} Try.checked os 3 .any (Rows.frameRisesSpec.pre6 enc Try.prog Try.f3 Rows.frameRisesRow.domain false) (Rows.frameRisesSpec.post enc Try.prog Try.f3 false true false false) := by
  refine law_lift (C := Try.checked) (tb := 4) ownR started (by kernel_rfl) Try.func3
    (ChangeSpec.witness6 (enc := enc) (C := Try.checked) false ⟨#[], #[.agg #[.int .i64 0, .int .i64 0, .int .i64 0, .int .i64 0, .int .i64 0, .int .i64 0, .slice none 0 0]], []⟩ 8 (by kernel_rfl) (by kernel_rfl) (by kernel_rfl) (by kernel_rfl))
    rfl (fun ds h => ?_) (by rfl) Try.underlying4 (by kernel_rfl) ?_ ?_
  · match ds, h with
    | [_], _ => rfl
  · intro t ht
    have e : t = 26 := by
      have : Try.f3.params.toList = [26] := by rfl
      rw [this] at ht; simpa using ht
    rcases e with rfl
    exact ⟨by kernel_rfl, of_decide_eq_true (by kernel_rfl)⟩
  · intro W base args ds ps hval hA hw
    have hp : Try.f3.params = #[26] := by rfl
    rw [hp] at hA hval hw
    obtain ⟨v, d, rfl, rfl, h0⟩ := trodAll_one hA
    obtain ⟨f, t, o, li, nu, tu, sv, l, rfl, hP⟩ := open_frame (hval 0 26 v rfl rfl) h0 (fun m hm => by
      have := List.all_eq_true.1 hw m (DataW.weights_mem_each (j := 0) rfl rfl m hm)
      simpa using this)
    exact frameRises_walk f t o li nu tu l sv W hP

theorem frameRises_over : Rows.frameRisesRow.holds Try.pinned (OpenSpec.ofChange Rows.frameRisesSpec) :=
  OpenClaim.holds_of_wide 3 Try.f3 rfl rfl rfl rfl rfl rfl rfl ⟨rfl, rfl, rfl, rfl, rfl⟩ rfl rfl rfl rfl rfl (by kernel_rfl) Try.func3 (by kernel_rfl)
    (of_decide_eq_true (by kernel_rfl)) (by unfold Func.isWrapper; first | (rw [if_pos (by decide +kernel)]; kernel_rfl) | (rw [if_neg (by decide +kernel)]; exact ⟨rfl, rfl⟩))
    (fun os started H enc _ => frameRises_lifted os started H enc)

theorem frameRises_holds : Rows.FrameRisesSaid := frameRises_over
#print axioms frameRises_holds
end Go.Proofs.Ytgglbohcnlcagaa
