/- StoreNew: whatever the number, the law returns true, and the argument read afterwards as before. The variable mix.lanes is listed, and tied to the program's text. No condition. -/
import Derived.Test.YtokcgnbjkbhmiaaDoorRows
import Derived.Test.YtokcgnbjkbhmiaaDoorTie
import Derived.Test.YtokcgnbjkbhmiaaDoorCards
import Derived.Test.YtokcgnbjkbhmiaaDoorMFO
import Derived.Test.YtokcgnbjkbhmiaaDoorMQI
import Derived.Test.YtokcgnbjkbhmiaaDoorMKY
import Derived.Test.YtokcgnbjkbhmiaaDoorMLiftL
import Derived.MakeChecks
import Derived.Carry
namespace Go.Proofs.YtokcgnbjkbhmiaaDoor
open Go.RowKit Go.ChangeShapes Go.WideShapes Go.ChangeAt Go.Joins
set_option maxHeartbeats 4000000
set_option maxRecDepth 100000
set_option linter.unusedSimpArgs false
set_option linter.unusedVariables false

theorem open_intV8 {H : Type} {enc : TypeId × Value → H} {W : World} {base : Nat} {v : Value} {d : DataW H} {p : List MemPlace} (hval : Value.okWide Tryd.prog W .any base 3 v)
    (h : DataW.Trod enc Tryd.prog W 0 (fun _ => true) true 3 v d p) : ∃ n : Int, v = .int .i64 n := by
  obtain ⟨n, rfl⟩ := okWide_int Tryd.underlying3 hval
  obtain ⟨fuel, hf⟩ := h
  simp only [Value.cells] at hf
  obtain ⟨m, e, -, r⟩ := DataW.trod_int Tryd.underlying3 hf
  simp at e
  subst e
  exact ⟨n, rfl⟩
theorem ownNone8 : ownKnob Tryd.prog.godebug = none := by kernel_rfl
theorem storeNew_lifted (os : Os) (started : os.Started) (H : Type) (enc : TypeId × Value → H) :
    ReturnsInHanded {} Tryd.checked os 4 .any (fun w args => (Rows.storeNewSpec.pre enc Tryd.prog Tryd.f4 [] false w args ∧ laidMetH Tryd.prog Rows.storeNewRow.laid w) ∧ sizedMet enc Tryd.prog Tryd.f4 (OpenSpec.ofChange Rows.storeNewSpec) false w args) (Rows.storeNewSpec.post enc Tryd.prog Tryd.f4 false true false false) := by
  refine law_liftL (C := Tryd.checked) (tb := 4) (X := fun w _ => laidMetH Tryd.prog Rows.storeNewRow.laid w) (fun _ _ _ hh h => h.of_heap hh) ownNone8 started (by kernel_rfl) Tryd.func4
    (ChangeSpec.witness_shaped (enc := enc) (C := Tryd.checked) (os := os) (X := fun w _ => laidMetH Tryd.prog Rows.storeNewRow.laid w) false (World.laidAll Tryd.prog os Rows.storeNewRow.laid) #[.int .i64 0] 8 (World.laidAll_os _ _ _)
      (World.shaped_of_ZipB (by kernel_rfl) (by kernel_rfl)) (by kernel_rfl) (by kernel_rfl) (by kernel_rfl)
      (by rw [MakeChecks.laidMetH_plain _ _ _ (by kernel_rfl)]; exact laidMet_laidAll _ (by kernel_rfl) (by kernel_rfl)))
    rfl (fun ds h => ?_) (by rfl) Tryd.underlying4 (by kernel_rfl) ?_ ?_
  · match ds, h with
    | [_], _ => rfl
  · intro t ht
    have e : t = 3 := by
      have : Tryd.f4.params.toList = [3] := by rfl
      rw [this] at ht; simpa using ht
    subst e
    exact ⟨by kernel_rfl, of_decide_eq_true (by kernel_rfl)⟩
  · intro W base args ds ps hval hA hw hlaid
    have hp : Tryd.f4.params = #[3] := by rfl
    rw [hp] at hA hval hw
    obtain ⟨v0, vs0, d0, ds0, p0, q0, hargs, rfl, rfl, h0, r0⟩ := trodAll_cons hA
    obtain ⟨rfl, rfl, rfl⟩ := trodAll_nil r0
    obtain rfl : args = #[v0] := by cases args; simp_all
    obtain ⟨i, rfl⟩ := open_intV8 (hval 0 3 v0 rfl rfl) h0
    exact storeNew_walk i W (lanes_laid hlaid)

theorem storeNew_over : Rows.storeNewRow.holds Tryd.pinned (OpenSpec.ofChange Rows.storeNewSpec) :=
  OpenClaim.holds_of_wide 4 Tryd.f4 rfl rfl rfl rfl rfl rfl rfl ⟨rfl, rfl, rfl, rfl, rfl⟩ rfl rfl rfl rfl rfl (by kernel_rfl) Tryd.func4 (by kernel_rfl)
    (of_decide_eq_true (by kernel_rfl)) (by unfold Func.isWrapper; first | (rw [if_pos (by decide +kernel)]; kernel_rfl) | (rw [if_neg (by decide +kernel)]; exact ⟨rfl, rfl⟩))
    (fun os started H enc _ => storeNew_lifted os started H enc)

theorem storeNew_holds : Rows.StoreNewCardSaid :=
  Claim7.holds_tied_plain_at .later [] [.data] true (true, "75af6b1a67402ee53174add1138896b9866a34e88f0a55261651643709f35bea") false storeNew_over (fun _ h => by cases h) (by kernel_rfl) (fun _ h => by cases h) storeNew_row_tie rfl ⟨rfl, rfl⟩ (by kernel_rfl) rfl
    (fun f fn hf hfn => by
      obtain rfl : f = 4 := Option.some.inj ((show Tryd.prog.funcNamed "tideline/tidelinelaw08.StoreNew" = some 4 by kernel_rfl).symm.trans hf) |>.symm
      obtain rfl : fn = Tryd.f4 := (Option.some.inj (Tryd.func4.symm.trans hfn)).symm
      exact ⟨by kernel_rfl, fun j t ht => by
        rw [show Tryd.f4.params = #[3] from rfl] at ht
        have hm : t ∈ [3] := by simpa using Array.mem_of_getElem? ht
        have hall : ([3].all fun u => !Tryd.prog.wantsStandIn u) = true := by kernel_rfl
        exact (show Tryd.prog.wantsStandIn t = false by simpa using List.all_eq_true.1 hall t hm)⟩)
    (by kernel_rfl)
#print axioms storeNew_holds
end Go.Proofs.YtokcgnbjkbhmiaaDoor
