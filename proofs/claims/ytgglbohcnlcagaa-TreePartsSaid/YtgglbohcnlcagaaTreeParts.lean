/- TreeParts: whatever rows, cuts and key are handed in, the law returns true, and the arguments read afterwards as before. No condition. -/
import Derived.Test.YtgglbohcnlcagaaRows
import Derived.Test.YtgglbohcnlcagaaTV
import Derived.Test.YtgglbohcnlcagaaTW
import Derived.Test.YtgglbohcnlcagaaLift
namespace Go.Proofs.Ytgglbohcnlcagaa
open Go.RowKit Go.ChangeShapes Go.WideShapes Go.ChangeAt Go.Joins
set_option maxHeartbeats 4000000
set_option maxRecDepth 100000
set_option linter.unusedSimpArgs false
set_option linter.unusedVariables false

theorem ownTP : ownKnob Try.prog.godebug = none := by kernel_rfl
theorem treeParts_lifted (os : Os) (started : os.Started) (H : Type) (enc : TypeId × Value → H) :
    ReturnsInHanded {} Try.checked os 6 .any (Rows.treePartsSpec.pre6 enc Try.prog Try.f6 Rows.treePartsRow.domain false) (Rows.treePartsSpec.post enc Try.prog Try.f6 false true false false) := by
  refine law_lift (C := Try.checked) (tb := 4) ownTP started (by kernel_rfl) Try.func6
    (ChangeSpec.witness6 (enc := enc) (C := Try.checked) false ⟨#[], #[.slice none 0 0, .agg #[.int .i64 0, .int .i64 0, .int .i64 0], .string ⟨#[]⟩], []⟩ 8 (by kernel_rfl) (by kernel_rfl) (by kernel_rfl) (by kernel_rfl))
    rfl (fun ds h => ?_) (by rfl) Try.underlying4 (by kernel_rfl) ?_ ?_
  · match ds, h with
    | [_, _, _], _ => rfl
  · intro t ht
    have e : t = 55 ∨ t = 56 ∨ t = 9 := by
      have : Try.f6.params.toList = [55, 56, 9] := by rfl
      rw [this] at ht; simpa using ht
    rcases e with rfl | rfl | rfl
    · exact ⟨by kernel_rfl, of_decide_eq_true (by kernel_rfl)⟩
    · exact ⟨by kernel_rfl, of_decide_eq_true (by kernel_rfl)⟩
    · exact ⟨by kernel_rfl, of_decide_eq_true (by kernel_rfl)⟩
  · intro W base args ds ps hval hA hw
    have hp : Try.f6.params = #[55, 56, 9] := by rfl
    rw [hp] at hA hval hw
    obtain ⟨v0, v1, v2, d0, d1, d2, p0, p1, p2, rfl, rfl, rfl, h0, h1, h2⟩ := trodAll_three hA
    obtain ⟨L, hL, hr⟩ := open_rowsV (hval 0 55 v0 rfl rfl) h0 (fun m hm => by
      have := List.all_eq_true.1 hw m (DataW.weights_mem_each (j := 0) rfl rfl m hm)
      simpa using this)
    obtain ⟨c0, c1, c2, rfl, r0, r1, r2⟩ := open_cutsV (hval 1 56 v1 rfl rfl) h1
    obtain ⟨key, rfl⟩ := okWide_string Try.underlying9 (hval 2 9 v2 rfl rfl)
    exact treeParts_walk L v0 c0 c1 c2 key W hL hr r0 r1 r2

theorem treeParts_over : Rows.treePartsRow.holds Try.pinned (OpenSpec.ofChange Rows.treePartsSpec) :=
  OpenClaim.holds_of_wide 6 Try.f6 rfl rfl rfl rfl rfl rfl rfl ⟨rfl, rfl, rfl, rfl, rfl⟩ rfl rfl rfl rfl rfl (by kernel_rfl) Try.func6 (by kernel_rfl)
    (of_decide_eq_true (by kernel_rfl)) (by unfold Func.isWrapper; first | (rw [if_pos (by decide +kernel)]; kernel_rfl) | (rw [if_neg (by decide +kernel)]; exact ⟨rfl, rfl⟩))
    (fun os started H enc _ => treeParts_lifted os started H enc)

theorem treeParts_holds : Rows.TreePartsSaid := treeParts_over
#print axioms treeParts_holds
end Go.Proofs.Ytgglbohcnlcagaa
