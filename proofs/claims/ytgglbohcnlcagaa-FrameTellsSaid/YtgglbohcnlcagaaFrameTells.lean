/- FrameTells: whatever two frames are handed in, the law returns true, and the arguments read afterwards as before. No condition. -/
import Derived.Test.YtgglbohcnlcagaaRows
import Derived.Test.YtgglbohcnlcagaaFV
import Derived.Test.YtgglbohcnlcagaaFO
import Derived.Test.YtgglbohcnlcagaaLift
namespace Go.Proofs.Ytgglbohcnlcagaa
open Go.RowKit Go.ChangeShapes Go.WideShapes Go.ChangeAt Go.Joins
set_option maxHeartbeats 4000000
set_option maxRecDepth 100000
set_option linter.unusedSimpArgs false
set_option linter.unusedVariables false

theorem ownT : ownKnob Try.prog.godebug = none := by kernel_rfl
theorem frameTells_lifted (os : Os) (started : os.Started) (H : Type) (enc : TypeId × Value → H) :
    ReturnsInHanded {} Try.checked os 5 .any (Rows.frameTellsSpec.pre6 enc Try.prog Try.f5 Rows.frameTellsRow.domain false) (Rows.frameTellsSpec.post enc Try.prog Try.f5 false true false false) := by
  refine law_lift (C := Try.checked) (tb := 4) ownT started (by kernel_rfl) Try.func5
    (ChangeSpec.witness6 (enc := enc) (C := Try.checked) false ⟨#[], #[.agg #[.int .i64 0, .int .i64 0, .int .i64 0, .int .i64 0, .int .i64 0, .int .i64 0, .slice none 0 0], .agg #[.int .i64 0, .int .i64 0, .int .i64 0, .int .i64 0, .int .i64 0, .int .i64 0, .slice none 0 0]], []⟩ 8 (by kernel_rfl) (by kernel_rfl) (by kernel_rfl) (by kernel_rfl))
    rfl (fun ds h => ?_) (by rfl) Try.underlying4 (by kernel_rfl) ?_ ?_
  · match ds, h with
    | [_, _], _ => rfl
  · intro t ht
    have e : t = 26 := by
      have : Try.f5.params.toList = [26, 26] := by rfl
      rw [this] at ht; simpa using ht
    rcases e with rfl
    exact ⟨by kernel_rfl, of_decide_eq_true (by kernel_rfl)⟩
  · intro W base args ds ps hval hA hw
    have hp : Try.f5.params = #[26, 26] := by rfl
    rw [hp] at hA hval hw
    obtain ⟨v, v', d, d', p, p', rfl, rfl, rfl, h0, h1⟩ := trodAll_two hA
    obtain ⟨f, t, o, li, nu, tu, sv, l, rfl, hP⟩ := open_frame (hval 0 26 v rfl rfl) h0 (fun m hm => by
      have := List.all_eq_true.1 hw m (DataW.weights_mem_each (j := 0) rfl rfl m hm)
      simpa using this)
    obtain ⟨f', t', o', li', nu', tu', sv', l', rfl, hP'⟩ := open_frame (hval 1 26 v' rfl rfl) h1 (fun m hm => by
      have := List.all_eq_true.1 hw m (DataW.weights_mem_each (j := 1) rfl rfl m hm)
      simpa using this)
    exact frameTells_walk f t o li nu tu f' t' o' li' nu' tu' l l' sv sv' W hP hP'

theorem frameTells_over : Rows.frameTellsRow.holds Try.pinned (OpenSpec.ofChange Rows.frameTellsSpec) :=
  OpenClaim.holds_of_wide 5 Try.f5 rfl rfl rfl rfl rfl rfl rfl ⟨rfl, rfl, rfl, rfl, rfl⟩ rfl rfl rfl rfl rfl (by kernel_rfl) Try.func5 (by kernel_rfl)
    (of_decide_eq_true (by kernel_rfl)) (by unfold Func.isWrapper; first | (rw [if_pos (by decide +kernel)]; kernel_rfl) | (rw [if_neg (by decide +kernel)]; exact ⟨rfl, rfl⟩))
    (fun os started H enc _ => frameTells_lifted os started H enc)

theorem frameTells_holds : Rows.FrameTellsSaid := frameTells_over
#print axioms frameTells_holds
end Go.Proofs.Ytgglbohcnlcagaa
