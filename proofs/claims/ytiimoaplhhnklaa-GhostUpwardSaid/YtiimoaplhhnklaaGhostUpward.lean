/- GhostUpward: whatever is written and seen, the law returns true, and the argument reads afterwards as before. No condition. -/
import Derived.Test.YtiimoaplhhnklaaRows
import Derived.Test.YtiimoaplhhnklaaHO
import Derived.Test.YtiimoaplhhnklaaLift
namespace Go.Proofs.Ytiimoaplhhnklaa
open Go.RowKit Go.ChangeShapes Go.WideShapes Go.ChangeAt Go.Joins
set_option maxHeartbeats 4000000
set_option maxRecDepth 100000
set_option linter.unusedSimpArgs false
set_option linter.unusedVariables false

theorem ghostUpward_lifted (os : Os) (started : os.Started) (H : Type) (enc : TypeId × Value → H) :
    ReturnsInHanded {} Try.checked os 4 .any (Rows.ghostUpwardSpec.pre6 enc Try.prog Try.f4 Rows.ghostUpwardRow.domain false) (Rows.ghostUpwardSpec.post enc Try.prog Try.f4 false true false false) := by
  refine law_lift (C := Try.checked) (tb := 4) ownNone started (by kernel_rfl) Try.func4
    (ChangeSpec.witness6 (enc := enc) (C := Try.checked) false ⟨#[], #[.slice none 0 0, .slice none 0 0, .int .i64 0], []⟩ 8 (by kernel_rfl) (by kernel_rfl) (by kernel_rfl) (by kernel_rfl))
    rfl (fun ds h => ?_) (by rfl) Try.underlying4 (by kernel_rfl) ?_ ?_
  · match ds, h with
    | [_, _, _], _ => rfl
  · intro t ht
    have e : t = 32 ∨ t = 38 ∨ t = 3 := by
      have : Try.f4.params.toList = [32, 38, 3] := by rfl
      rw [this] at ht; simpa using ht
    rcases e with rfl | rfl | rfl
    · exact ⟨by kernel_rfl, of_decide_eq_true (by kernel_rfl)⟩
    · exact ⟨by kernel_rfl, of_decide_eq_true (by kernel_rfl)⟩
    · exact ⟨by kernel_rfl, of_decide_eq_true (by kernel_rfl)⟩
  · intro W base args ds ps hval hA hw
    have hp : Try.f4.params = #[32, 38, 3] := by rfl
    rw [hp] at hA hval hw
    obtain ⟨v0, v1, v2, d0, d1, d2, p0, p1, p2, rfl, rfl, rfl, h0, h1, h2⟩ := trodAll_three hA
    obtain ⟨N, hN⟩ := open_entsV (hval 0 32 v0 rfl rfl) h0 (fun m hm => by
      have := List.all_eq_true.1 hw m (DataW.weights_mem_each (j := 0) rfl rfl m hm)
      simpa using this)
    obtain ⟨S, hM⟩ := open_seenV (hval 1 38 v1 rfl rfl) h1 (fun m hm => by
      have := List.all_eq_true.1 hw m (DataW.weights_mem_each (j := 1) rfl rfl m hm)
      simpa using this)
    obtain ⟨i, rfl⟩ := open_intV (hval 2 3 v2 rfl rfl) h2
    exact ghostUpward_walk N S v0 v1 i W hN hM

theorem ghostUpward_over : Rows.ghostUpwardRow.holds Try.pinned (OpenSpec.ofChange Rows.ghostUpwardSpec) :=
  OpenClaim.holds_of_wide 4 Try.f4 rfl rfl rfl rfl rfl rfl rfl ⟨rfl, rfl, rfl, rfl, rfl⟩ rfl rfl rfl rfl rfl (by kernel_rfl) Try.func4 (by kernel_rfl)
    (of_decide_eq_true (by kernel_rfl)) (by unfold Func.isWrapper; first | (rw [if_pos (by decide +kernel)]; kernel_rfl) | (rw [if_neg (by decide +kernel)]; exact ⟨rfl, rfl⟩))
    (fun os started H enc _ => ghostUpward_lifted os started H enc)

theorem ghostUpward_holds : Rows.GhostUpwardSaid := ghostUpward_over
#print axioms ghostUpward_holds
end Go.Proofs.Ytiimoaplhhnklaa
