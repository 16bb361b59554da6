/- GhostJudges: whatever the maps ahead of a session and behind it, the Config and the number, the law returns true, and the arguments read afterwards as before. The variable mix.lanes is listed, and tied to the program's text. No condition. -/
import Derived.Test.YtiimoaplhhnklaaDoorRows
import Derived.Test.YtiimoaplhhnklaaDoorTie
import Derived.Test.YtiimoaplhhnklaaDoorCards
import Derived.Test.YtiimoaplhhnklaaDoorHO
import Derived.Test.YtiimoaplhhnklaaDoorMKV
import Derived.Test.YtiimoaplhhnklaaDoorMKY
import Derived.Test.YtiimoaplhhnklaaDoorLiftL
import Derived.MakeChecks
import Derived.Carry
namespace Go.Proofs.YtiimoaplhhnklaaDoor
open Go.RowKit Go.ChangeShapes Go.WideShapes Go.ChangeAt Go.Joins
set_option maxHeartbeats 4000000
set_option maxRecDepth 100000
set_option linter.unusedSimpArgs false
set_option linter.unusedVariables false

theorem cConfig : Tryd.prog.cellsOf 44 = 4 := by kernel_rfl
section
variable {H : Type} {enc : TypeId × Value → H}
theorem open_cfgV {W : World} {base : Nat} {v : Value} {d : DataW H} {p : List MemPlace} (hval : Value.okWide Tryd.prog W .any base 44 v)
    (h : DataW.Trod enc Tryd.prog W 0 (fun _ => true) true 44 v d p) : ∃ b l wt tr : Int, v = cfgV b l wt tr := by
  obtain ⟨cs, rfl, hsz⟩ := okWide_struct Tryd.underlying44 hval
  obtain ⟨fuel, hf⟩ := h
  simp only [Value.cells] at hf
  obtain ⟨y0, y1, y2, y3, m, -, hl, h0, h1, h2, h3⟩ := trod_struct4 Tryd.underlying44 hf
  obtain ⟨c0, c1, c2, c3, e⟩ : ∃ a b c d, cs.toList = [a, b, c, d] := by
    have hl' := hl.trans cConfig
    match cs.toList, hl' with
    | [a, b, c, d], _ => exact ⟨a, b, c, d, rfl⟩
  rw [e] at h0 h1 h2 h3
  simp only [cInt, List.drop_zero, List.drop_succ_cons, List.take_succ_cons, List.take_zero] at h0 h1 h2 h3
  obtain ⟨b, e0, -, -⟩ := DataW.trod_int Tryd.underlying3 h0
  obtain ⟨l, e1, -, -⟩ := DataW.trod_int Tryd.underlying3 h1
  obtain ⟨wt, e2, -, -⟩ := DataW.trod_int Tryd.underlying3 h2
  obtain ⟨tr, e3, -, -⟩ := DataW.trod_int Tryd.underlying3 h3
  simp at e0 e1 e2 e3
  subst e0 e1 e2 e3
  exact ⟨b, l, wt, tr, by rw [← Array.toArray_toList (xs := cs), e]⟩
end

theorem trodAll_six {P : Program} {w : World} {base : Nat} {spare : Nat → Bool} {held : Bool} {H : Type} {enc : TypeId × Value → H} {t0 t1 t2 t3 t4 t5 : TypeId} {args : Array Value} {ds : List (DataW H)} {ps : List MemPlace} (h : DataW.TrodAll enc P w base spare held [t0, t1, t2, t3, t4, t5] args.toList ds ps) :
    ∃ v0 v1 v2 v3 v4 v5 d0 d1 d2 d3 d4 d5 p0 p1 p2 p3 p4 p5, args = #[v0, v1, v2, v3, v4, v5] ∧ ds = [d0, d1, d2, d3, d4, d5] ∧ ps = p0 ++ p1 ++ p2 ++ p3 ++ p4 ++ p5 ∧ DataW.Trod enc P w base spare held t0 v0 d0 p0 ∧ DataW.Trod enc P w base spare held t1 v1 d1 p1 ∧ DataW.Trod enc P w base spare held t2 v2 d2 p2 ∧ DataW.Trod enc P w base spare held t3 v3 d3 p3 ∧ DataW.Trod enc P w base spare held t4 v4 d4 p4 ∧ DataW.Trod enc P w base spare held t5 v5 d5 p5 := by
  obtain ⟨v0, vs0, d0, ds0, p0, q0, hargs, rfl, rfl, h0, r0⟩ := trodAll_cons h
  obtain ⟨v1, vs1, d1, ds1, p1, q1, rfl, rfl, rfl, h1, r1⟩ := trodAll_cons r0
  obtain ⟨v2, vs2, d2, ds2, p2, q2, rfl, rfl, rfl, h2, r2⟩ := trodAll_cons r1
  obtain ⟨v3, vs3, d3, ds3, p3, q3, rfl, rfl, rfl, h3, r3⟩ := trodAll_cons r2
  obtain ⟨v4, vs4, d4, ds4, p4, q4, rfl, rfl, rfl, h4, r4⟩ := trodAll_cons r3
  obtain ⟨v5, vs5, d5, ds5, p5, q5, rfl, rfl, rfl, h5, r5⟩ := trodAll_cons r4
  obtain ⟨rfl, rfl, rfl⟩ := trodAll_nil r5
  exact ⟨v0, v1, v2, v3, v4, v5, d0, d1, d2, d3, d4, d5, p0, p1, p2, p3, p4, p5, by cases args; simp_all, rfl, by simp, h0, h1, h2, h3, h4, h5⟩
theorem ghostJudges_lifted (os : Os) (started : os.Started) (H : Type) (enc : TypeId × Value → H) :
    ReturnsInHanded {} Tryd.checked os 4 .any (fun w args => (Rows.ghostJudgesSpec.pre enc Tryd.prog Tryd.f4 [] false w args ∧ laidMetH Tryd.prog Rows.ghostJudgesRow.laid w) ∧ sizedMet enc Tryd.prog Tryd.f4 (OpenSpec.ofChange Rows.ghostJudgesSpec) false w args) (Rows.ghostJudgesSpec.post enc Tryd.prog Tryd.f4 false true false false) := by
  refine law_liftL (C := Tryd.checked) (tb := 4) (X := fun w _ => laidMetH Tryd.prog Rows.ghostJudgesRow.laid w) (fun _ _ _ hh h => h.of_heap hh) ownNone started (by kernel_rfl) Tryd.func4
    (ChangeSpec.witness_shaped (enc := enc) (C := Tryd.checked) (os := os) (X := fun w _ => laidMetH Tryd.prog Rows.ghostJudgesRow.laid w) false (World.laidAll Tryd.prog os Rows.ghostJudgesRow.laid) #[.slice none 0 0, .slice none 0 0, .slice none 0 0, .slice none 0 0, .agg #[.int .i64 0, .int .i64 0, .int .i64 0, .int .i64 0], .int .i64 0] 8 (World.laidAll_os _ _ _)
      (World.shaped_of_ZipB (by kernel_rfl) (by kernel_rfl)) (by kernel_rfl) (by kernel_rfl) (by kernel_rfl)
      (by rw [MakeChecks.laidMetH_plain _ _ _ (by kernel_rfl)]; exact laidMet_laidAll _ (by kernel_rfl) (by kernel_rfl)))
    rfl (fun ds h => ?_) (by rfl) Tryd.underlying4 (by kernel_rfl) ?_ ?_
  · match ds, h with
    | [_, _, _, _, _, _], _ => rfl
  · intro t ht
    have e : t = 22 ∨ t = 22 ∨ t = 22 ∨ t = 22 ∨ t = 44 ∨ t = 3 := by
      have : Tryd.f4.params.toList = [22, 22, 22, 22, 44, 3] := by rfl
      rw [this] at ht; simpa using ht
    rcases e with rfl | rfl | rfl | rfl | rfl | rfl
    · exact ⟨by kernel_rfl, of_decide_eq_true (by kernel_rfl)⟩
    · exact ⟨by kernel_rfl, of_decide_eq_true (by kernel_rfl)⟩
    · exact ⟨by kernel_rfl, of_decide_eq_true (by kernel_rfl)⟩
    · exact ⟨by kernel_rfl, of_decide_eq_true (by kernel_rfl)⟩
    · exact ⟨by kernel_rfl, of_decide_eq_true (by kernel_rfl)⟩
    · exact ⟨by kernel_rfl, of_decide_eq_true (by kernel_rfl)⟩
  · intro W base args ds ps hval hA hw hlaid
    have hp : Tryd.f4.params = #[22, 22, 22, 22, 44, 3] := by rfl
    rw [hp] at hA hval hw
    obtain ⟨v0, v1, v2, v3, v4, v5, d0, d1, d2, d3, d4, d5, p0, p1, p2, p3, p4, p5, rfl, rfl, rfl, h0, h1, h2, h3, h4, h5⟩ := trodAll_six hA
    obtain ⟨A, hEA⟩ := open_entsV (hval 0 22 v0 rfl rfl) h0 (fun m hm => by
      have := List.all_eq_true.1 hw m (DataW.weights_mem_each (j := 0) rfl rfl m hm)
      simpa using this)
    obtain ⟨B, hEB⟩ := open_entsV (hval 1 22 v1 rfl rfl) h1 (fun m hm => by
      have := List.all_eq_true.1 hw m (DataW.weights_mem_each (j := 1) rfl rfl m hm)
      simpa using this)
    obtain ⟨X, hEX⟩ := open_entsV (hval 2 22 v2 rfl rfl) h2 (fun m hm => by
      have := List.all_eq_true.1 hw m (DataW.weights_mem_each (j := 2) rfl rfl m hm)
      simpa using this)
    obtain ⟨Y, hEY⟩ := open_entsV (hval 3 22 v3 rfl rfl) h3 (fun m hm => by
      have := List.all_eq_true.1 hw m (DataW.weights_mem_each (j := 3) rfl rfl m hm)
      simpa using this)
    obtain ⟨b, l, wt, tr, rfl⟩ := open_cfgV (hval 4 44 v4 rfl rfl) h4
    obtain ⟨i, rfl⟩ := open_intV (hval 5 3 v5 rfl rfl) h5
    exact ghostJudges_walk A B X Y v0 v1 v2 v3 b l wt tr i W hEA hEB hEX hEY (lanes_laid hlaid)

theorem ghostJudges_over : Rows.ghostJudgesRow.holds Tryd.pinned (OpenSpec.ofChange Rows.ghostJudgesSpec) :=
  OpenClaim.holds_of_wide 4 Tryd.f4 rfl rfl rfl rfl rfl rfl rfl ⟨rfl, rfl, rfl, rfl, rfl⟩ rfl rfl rfl rfl rfl (by kernel_rfl) Tryd.func4 (by kernel_rfl)
    (of_decide_eq_true (by kernel_rfl)) (by unfold Func.isWrapper; first | (rw [if_pos (by decide +kernel)]; kernel_rfl) | (rw [if_neg (by decide +kernel)]; exact ⟨rfl, rfl⟩))
    (fun os started H enc _ => ghostJudges_lifted os started H enc)

theorem ghostJudges_holds : Rows.GhostJudgesCardSaid :=
  Claim7.holds_tied_plain_at .later [] [.data] true (true, "3e74e25cc896722d7e7bfc410cd7b1c7834c561f14a19d3ffcbc43c7ec9a9b47") false ghostJudges_over (fun _ h => by cases h) (by kernel_rfl) (fun _ h => by cases h) ghostJudges_row_tie rfl ⟨rfl, rfl⟩ (by kernel_rfl) rfl
    (fun f fn hf hfn => by
      obtain rfl : f = 4 := Option.some.inj ((show Tryd.prog.funcNamed "tideline/tidelinelaw19.GhostJudges" = some 4 by kernel_rfl).symm.trans hf) |>.symm
      obtain rfl : fn = Tryd.f4 := (Option.some.inj (Tryd.func4.symm.trans hfn)).symm
      exact ⟨by kernel_rfl, fun j t ht => by
        rw [show Tryd.f4.params = #[22, 22, 22, 22, 44, 3] from rfl] at ht
        have hm : t ∈ [22, 22, 22, 22, 44, 3] := by simpa using Array.mem_of_getElem? ht
        have hall : ([22, 22, 22, 22, 44, 3].all fun u => !Tryd.prog.wantsStandIn u) = true := by kernel_rfl
        exact (show Tryd.prog.wantsStandIn t = false by simpa using List.all_eq_true.1 hall t hm)⟩)
    (by kernel_rfl)
#print axioms ghostJudges_holds
end Go.Proofs.YtiimoaplhhnklaaDoor
