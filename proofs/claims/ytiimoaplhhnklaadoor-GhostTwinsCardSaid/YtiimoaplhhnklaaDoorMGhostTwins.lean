/- GhostTwins: whatever the maps and the two numbers, the law returns true, and the arguments read afterwards as before. The variable mix.lanes is listed, and tied to the program's text. No condition. -/
import Derived.Test.YtiimoaplhhnklaaDoorRows
import Derived.Test.YtiimoaplhhnklaaDoorTie
import Derived.Test.YtiimoaplhhnklaaDoorCards
import Derived.Test.YtiimoaplhhnklaaDoorHO
import Derived.Test.YtiimoaplhhnklaaDoorMLB
import Derived.Test.YtiimoaplhhnklaaDoorLiftL
import Derived.MakeChecks
import Derived.Carry
namespace Go.Proofs.YtiimoaplhhnklaaDoor
open Go.RowKit Go.ChangeShapes Go.WideShapes Go.ChangeAt Go.Joins
set_option maxHeartbeats 4000000
set_option maxRecDepth 100000
set_option linter.unusedSimpArgs false
set_option linter.unusedVariables false

theorem ghostTwins_lifted (os : Os) (started : os.Started) (H : Type) (enc : TypeId × Value → H) :
    ReturnsInHanded {} Tryd.checked os 3 .any (fun w args => (Rows.ghostTwinsSpec.pre enc Tryd.prog Tryd.f3 [] false w args ∧ laidMetH Tryd.prog Rows.ghostTwinsRow.laid w) ∧ sizedMet enc Tryd.prog Tryd.f3 (OpenSpec.ofChange Rows.ghostTwinsSpec) false w args) (Rows.ghostTwinsSpec.post enc Tryd.prog Tryd.f3 false true false false) := by
  refine law_liftL (C := Tryd.checked) (tb := 4) (X := fun w _ => laidMetH Tryd.prog Rows.ghostTwinsRow.laid w) (fun _ _ _ hh h => h.of_heap hh) ownNone started (by kernel_rfl) Tryd.func3
    (ChangeSpec.witness_shaped (enc := enc) (C := Tryd.checked) (os := os) (X := fun w _ => laidMetH Tryd.prog Rows.ghostTwinsRow.laid w) false (World.laidAll Tryd.prog os Rows.ghostTwinsRow.laid) #[.slice none 0 0, .slice none 0 0, .int .i64 0, .int .i64 0] 8 (World.laidAll_os _ _ _)
      (World.shaped_of_ZipB (by kernel_rfl) (by kernel_rfl)) (by kernel_rfl) (by kernel_rfl) (by kernel_rfl)
      (by rw [MakeChecks.laidMetH_plain _ _ _ (by kernel_rfl)]; exact laidMet_laidAll _ (by kernel_rfl) (by kernel_rfl)))
    rfl (fun ds h => ?_) (by rfl) Tryd.underlying4 (by kernel_rfl) ?_ ?_
  · match ds, h with
    | [_, _, _, _], _ => rfl
  · intro t ht
    have e : t = 22 ∨ t = 22 ∨ t = 3 ∨ t = 3 := by
      have : Tryd.f3.params.toList = [22, 22, 3, 3] := by rfl
      rw [this] at ht; simpa using ht
    rcases e with rfl | rfl | rfl | rfl
    · exact ⟨by kernel_rfl, of_decide_eq_true (by kernel_rfl)⟩
    · exact ⟨by kernel_rfl, of_decide_eq_true (by kernel_rfl)⟩
    · exact ⟨by kernel_rfl, of_decide_eq_true (by kernel_rfl)⟩
    · exact ⟨by kernel_rfl, of_decide_eq_true (by kernel_rfl)⟩
  · intro W base args ds ps hval hA hw hlaid
    have hp : Tryd.f3.params = #[22, 22, 3, 3] := by rfl
    rw [hp] at hA hval hw
    obtain ⟨v0, v1, v2, v3, d0, d1, d2, d3, p0, p1, p2, p3, rfl, rfl, rfl, h0, h1, h2, h3⟩ := trodAll_four hA
    obtain ⟨N, hN⟩ := open_entsV (hval 0 22 v0 rfl rfl) h0 (fun m hm => by
      have := List.all_eq_true.1 hw m (DataW.weights_mem_each (j := 0) rfl rfl m hm)
      simpa using this)
    obtain ⟨S, hM⟩ := open_entsV (hval 1 22 v1 rfl rfl) h1 (fun m hm => by
      have := List.all_eq_true.1 hw m (DataW.weights_mem_each (j := 1) rfl rfl m hm)
      simpa using this)
    obtain ⟨br, rfl⟩ := open_intV (hval 2 3 v2 rfl rfl) h2
    obtain ⟨lf, rfl⟩ := open_intV (hval 3 3 v3 rfl rfl) h3
    exact ghostTwins_walk N S v0 v1 br lf W hN hM (lanes_laid hlaid)

theorem ghostTwins_over : Rows.ghostTwinsRow.holds Tryd.pinned (OpenSpec.ofChange Rows.ghostTwinsSpec) :=
  OpenClaim.holds_of_wide 3 Tryd.f3 rfl rfl rfl rfl rfl rfl rfl ⟨rfl, rfl, rfl, rfl, rfl⟩ rfl rfl rfl rfl rfl (by kernel_rfl) Tryd.func3 (by kernel_rfl)
    (of_decide_eq_true (by kernel_rfl)) (by unfold Func.isWrapper; first | (rw [if_pos (by decide +kernel)]; kernel_rfl) | (rw [if_neg (by decide +kernel)]; exact ⟨rfl, rfl⟩))
    (fun os started H enc _ => ghostTwins_lifted os started H enc)

theorem ghostTwins_holds : Rows.GhostTwinsCardSaid :=
  Claim7.holds_tied_plain_at .later [] [.data] true (true, "3e74e25cc896722d7e7bfc410cd7b1c7834c561f14a19d3ffcbc43c7ec9a9b47") false ghostTwins_over (fun _ h => by cases h) (by kernel_rfl) (fun _ h => by cases h) ghostTwins_row_tie rfl ⟨rfl, rfl⟩ (by kernel_rfl) rfl
    (fun f fn hf hfn => by
      obtain rfl : f = 3 := Option.some.inj ((show Tryd.prog.funcNamed "tideline/tidelinelaw19.GhostTwins" = some 3 by kernel_rfl).symm.trans hf) |>.symm
      obtain rfl : fn = Tryd.f3 := (Option.some.inj (Tryd.func3.symm.trans hfn)).symm
      exact ⟨by kernel_rfl, fun j t ht => by
        rw [show Tryd.f3.params = #[22, 22, 3, 3] from rfl] at ht
        have hm : t ∈ [22, 22, 3, 3] := by simpa using Array.mem_of_getElem? ht
        have hall : ([22, 22, 3, 3].all fun u => !Tryd.prog.wantsStandIn u) = true := by kernel_rfl
        exact (show Tryd.prog.wantsStandIn t = false by simpa using List.all_eq_true.1 hall t hm)⟩)
    (by kernel_rfl)
#print axioms ghostTwins_holds
end Go.Proofs.YtiimoaplhhnklaaDoor
