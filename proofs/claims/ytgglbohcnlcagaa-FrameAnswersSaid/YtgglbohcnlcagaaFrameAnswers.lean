/- FrameAnswers: whatever frame and parts are handed in, the law returns true, and the arguments read afterwards as before. No condition. -/
import Derived.Test.YtgglbohcnlcagaaRows
import Derived.Test.YtgglbohcnlcagaaFY
import Derived.Test.YtgglbohcnlcagaaFO
import Derived.Test.YtgglbohcnlcagaaLift
namespace Go.Proofs.Ytgglbohcnlcagaa
open Go.RowKit Go.ChangeShapes Go.WideShapes Go.ChangeAt Go.Joins
set_option maxHeartbeats 4000000
set_option maxRecDepth 100000
set_option linter.unusedSimpArgs false
set_option linter.unusedVariables false

theorem ownA : ownKnob Try.prog.godebug = none := by kernel_rfl
theorem frameAnswers_lifted (os : Os) (started : os.Started) (H : Type) (enc : TypeId × Value → H) :
    ReturnsInHanded {} Try.checked os 11 .any (Rows.frameAnswersSpec.pre6 enc Try.prog Try.f11 Rows.frameAnswersRow.domain false) (Rows.frameAnswersSpec.post enc Try.prog Try.f11 false true false false) := by
  refine law_lift (C := Try.checked) (tb := 4) ownA started (by kernel_rfl) Try.func11
    (ChangeSpec.witness6 (enc := enc) (C := Try.checked) false ⟨#[], #[.agg #[.int .i64 0, .int .i64 0, .int .i64 0, .int .i64 0, .int .i64 0, .int .i64 0, .slice none 0 0], .slice none 0 0, .slice none 0 0], []⟩ 8 (by kernel_rfl) (by kernel_rfl) (by kernel_rfl) (by kernel_rfl))
    rfl (fun ds h => ?_) (by rfl) Try.underlying4 (by kernel_rfl) ?_ ?_
  · match ds, h with
    | [_, _, _], _ => rfl
  · intro t ht
    have e : t = 26 ∨ t = 24 := by
      have : Try.f11.params.toList = [26, 24, 24] := by rfl
      rw [this] at ht; simpa using ht
    rcases e with rfl | rfl
    · exact ⟨by kernel_rfl, of_decide_eq_true (by kernel_rfl)⟩
    · exact ⟨by kernel_rfl, of_decide_eq_true (by kernel_rfl)⟩
  · intro W base args ds ps hval hA hw
    have hp : Try.f11.params = #[26, 24, 24] := by rfl
    rw [hp] at hA hval hw
    obtain ⟨v0, v1, v2, d0, d1, d2, p0, p1, p2, rfl, rfl, rfl, h0, h1, h2⟩ := trodAll_three hA
    obtain ⟨f, t, o, li, nu, tu, sv, l, rfl, hP⟩ := open_frame (hval 0 26 v0 rfl rfl) h0 (fun m hm => by
      have := List.all_eq_true.1 hw m (DataW.weights_mem_each (j := 0) rfl rfl m hm)
      simpa using this)
    obtain ⟨m, hM⟩ := open_partsV (hval 1 24 v1 rfl rfl) h1 (fun m hm => by
      have := List.all_eq_true.1 hw m (DataW.weights_mem_each (j := 1) rfl rfl m hm)
      simpa using this)
    obtain ⟨q, hQ⟩ := open_partsV (hval 2 24 v2 rfl rfl) h2 (fun m hm => by
      have := List.all_eq_true.1 hw m (DataW.weights_mem_each (j := 2) rfl rfl m hm)
      simpa using this)
    exact frameAnswers_walk f t o li nu tu l m q sv v1 v2 W hP hM hQ

theorem frameAnswers_over : Rows.frameAnswersRow.holds Try.pinned (OpenSpec.ofChange Rows.frameAnswersSpec) :=
  OpenClaim.holds_of_wide 11 Try.f11 rfl rfl rfl rfl rfl rfl rfl ⟨rfl, rfl, rfl, rfl, rfl⟩ rfl rfl rfl rfl rfl (by kernel_rfl) Try.func11 (by kernel_rfl)
    (of_decide_eq_true (by kernel_rfl)) (by unfold Func.isWrapper; first | (rw [if_pos (by decide +kernel)]; kernel_rfl) | (rw [if_neg (by decide +kernel)]; exact ⟨rfl, rfl⟩))
    (fun os started H enc _ => frameAnswers_lifted os started H enc)

theorem frameAnswers_holds : Rows.FrameAnswersSaid := frameAnswers_over
#print axioms frameAnswers_holds
end Go.Proofs.Ytgglbohcnlcagaa
