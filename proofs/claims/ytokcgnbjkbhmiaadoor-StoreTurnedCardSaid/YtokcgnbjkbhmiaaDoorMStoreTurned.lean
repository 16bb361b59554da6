/- StoreTurned: whatever the entries and the picks, the law returns true, and the arguments read afterwards as before. The variable mix.lanes is listed, and tied to the program's text. No condition. -/
import Derived.Test.YtokcgnbjkbhmiaaDoorRows
import Derived.Test.YtokcgnbjkbhmiaaDoorTie
import Derived.Test.YtokcgnbjkbhmiaaDoorCards
import Derived.Test.YtokcgnbjkbhmiaaDoorMFO
import Derived.Test.YtokcgnbjkbhmiaaDoorMQN
import Derived.Test.YtokcgnbjkbhmiaaDoorMKY
import Derived.Test.YtokcgnbjkbhmiaaDoorMLiftL
import Derived.MakeChecks
import Derived.Carry
namespace Go.Proofs.YtokcgnbjkbhmiaaDoor
open Go.RowKit Go.ChangeShapes Go.WideShapes Go.ChangeAt Go.Joins
set_option maxHeartbeats 4000000
set_option maxRecDepth 100000
set_option linter.unusedSimpArgs false
set_option linter.unusedVariables false

theorem i64_of8 {n : Int} (h : (Lit.int .i64 n).wf = true) : -9223372036854775808 ≤ n ∧ n ≤ 9223372036854775807 := by
  have e1 : IntKind.i64.min = -9223372036854775808 := rfl
  have e2 : IntKind.i64.max = 9223372036854775807 := rfl
  simp only [Lit.wf, Bool.and_eq_true, decide_eq_true_eq, e1, e2] at h
  exact h
theorem ownNone8 : ownKnob Tryd.prog.godebug = none := by kernel_rfl
section
variable {H : Type} {enc : TypeId × Value → H}
theorem open_ents8 {W : World} {base : Nat} {v : Value} {d : DataW H} {p : List MemPlace} (hval : Value.okWide Tryd.prog W .any base 22 v)
    (h : DataW.Trod enc Tryd.prog W 0 (fun _ => true) true 22 v d p) (hw : ∀ m ∈ d.weights Tryd.prog 22, m ≤ reachBytes) : ∃ l : List Ent, EntSl W v l := by
  obtain ⟨a, len, cap, rfl⟩ := okWide_slice Tryd.underlying22 hval
  obtain ⟨fuel, hf⟩ := h
  obtain ⟨v', l, e, hP⟩ := open_ents hf hw
  simp only [Value.cells] at e
  simp at e
  subst e
  exact ⟨l, hP⟩
theorem open_ints8 {W : World} {base : Nat} {v : Value} {d : DataW H} {p : List MemPlace} (hval : Value.okWide Tryd.prog W .any base 53 v)
    (h : DataW.Trod enc Tryd.prog W 0 (fun _ => true) true 53 v d p) (hw : ∀ m ∈ d.weights Tryd.prog 53, m ≤ reachBytes) : ∃ P : List Int, GSl cI 1 W v P ∧ ∀ x ∈ P, -9223372036854775808 ≤ x ∧ x ≤ 9223372036854775807 := by
  obtain ⟨a, len, cap, rfl⟩ := okWide_slice Tryd.underlying53 hval
  obtain ⟨fuel, hf⟩ := h
  obtain ⟨a', c, P, e, h1, h2, h3⟩ := open_list (α := Int) Tryd.underlying53 cInt (by omega) (of_decide_eq_true (by kernel_rfl)) (fun r cs => cs = [.int .i64 r] ∧ (-9223372036854775808 ≤ r ∧ r ≤ 9223372036854775807)) (fun _ _ _ h _ => by
    obtain ⟨m, e, -, r⟩ := DataW.trod_int Tryd.underlying3 h
    exact ⟨m, e, i64_of8 r⟩) hf hw
  simp only [Value.cells] at e hf
  simp at e
  obtain ⟨rfl, rfl, rfl⟩ := e
  refine ⟨P, ⟨a, cap, rfl, h1, fun hp => ?_⟩, fun x hx => ?_⟩
  · obtain ⟨b, o, rfl, hE⟩ := h3 hp
    refine ⟨b, o, rfl, fun i hi j hj => ?_⟩
    obtain ⟨vs, -, ⟨rfl, -⟩, hc⟩ := hE i hi
    obtain rfl : j = 0 := by omega
    have h9 := hc 0 (by omega)
    simpa [cI] using h9
  · obtain ⟨i, hi, rfl⟩ := List.getElem_of_mem hx
    obtain ⟨b, o, -, hE⟩ := h3 (by omega)
    obtain ⟨vs, -, ⟨-, h⟩, -⟩ := hE i hi
    exact h
end
theorem storeTurned_lifted (os : Os) (started : os.Started) (H : Type) (enc : TypeId × Value → H) :
    ReturnsInHanded {} Tryd.checked os 5 .any (fun w args => (Rows.storeTurnedSpec.pre enc Tryd.prog Tryd.f5 [] false w args ∧ laidMetH Tryd.prog Rows.storeTurnedRow.laid w) ∧ sizedMet enc Tryd.prog Tryd.f5 (OpenSpec.ofChange Rows.storeTurnedSpec) false w args) (Rows.storeTurnedSpec.post enc Tryd.prog Tryd.f5 false true false false) := by
  refine law_liftL (C := Tryd.checked) (tb := 4) (X := fun w _ => laidMetH Tryd.prog Rows.storeTurnedRow.laid w) (fun _ _ _ hh h => h.of_heap hh) ownNone8 started (by kernel_rfl) Tryd.func5
    (ChangeSpec.witness_shaped (enc := enc) (C := Tryd.checked) (os := os) (X := fun w _ => laidMetH Tryd.prog Rows.storeTurnedRow.laid w) false (World.laidAll Tryd.prog os Rows.storeTurnedRow.laid) #[.slice none 0 0, .slice none 0 0] 8 (World.laidAll_os _ _ _)
      (World.shaped_of_ZipB (by kernel_rfl) (by kernel_rfl)) (by kernel_rfl) (by kernel_rfl) (by kernel_rfl)
      (by rw [MakeChecks.laidMetH_plain _ _ _ (by kernel_rfl)]; exact laidMet_laidAll _ (by kernel_rfl) (by kernel_rfl)))
    rfl (fun ds h => ?_) (by rfl) Tryd.underlying4 (by kernel_rfl) ?_ ?_
  · match ds, h with
    | [_, _], _ => rfl
  · intro t ht
    have e : t = 22 ∨ t = 53 := by
      have : Tryd.f5.params.toList = [22, 53] := by rfl
      rw [this] at ht; simpa using ht
    rcases e with rfl | rfl
    · exact ⟨by kernel_rfl, of_decide_eq_true (by kernel_rfl)⟩
    · exact ⟨by kernel_rfl, of_decide_eq_true (by kernel_rfl)⟩
  · intro W base args ds ps hval hA hw hlaid
    have hp : Tryd.f5.params = #[22, 53] := by rfl
    rw [hp] at hA hval hw
    obtain ⟨v0, vs0, d0, ds0, p0, q0, hargs, rfl, rfl, h0, r0⟩ := trodAll_cons hA
    obtain ⟨v1, vs1, d1, ds1, p1, q1, rfl, rfl, rfl, h1, r1⟩ := trodAll_cons r0
    obtain ⟨rfl, rfl, rfl⟩ := trodAll_nil r1
    obtain rfl : args = #[v0, v1] := by cases args; simp_all
    obtain ⟨L, hL⟩ := open_ents8 (hval 0 22 v0 rfl rfl) h0 (fun m hm => by
      have := List.all_eq_true.1 hw m (DataW.weights_mem_each (j := 0) rfl rfl m hm)
      simpa using this)
    obtain ⟨P, hP, hPr⟩ := open_ints8 (hval 1 53 v1 rfl rfl) h1 (fun m hm => by
      have := List.all_eq_true.1 hw m (DataW.weights_mem_each (j := 1) rfl rfl m hm)
      simpa using this)
    exact storeTurned_walk L P v0 v1 W hL hP hPr (lanes_laid hlaid)

theorem storeTurned_over : Rows.storeTurnedRow.holds Tryd.pinned (OpenSpec.ofChange Rows.storeTurnedSpec) :=
  OpenClaim.holds_of_wide 5 Tryd.f5 rfl rfl rfl rfl rfl rfl rfl ⟨rfl, rfl, rfl, rfl, rfl⟩ rfl rfl rfl rfl rfl (by kernel_rfl) Tryd.func5 (by kernel_rfl)
    (of_decide_eq_true (by kernel_rfl)) (by unfold Func.isWrapper; first | (rw [if_pos (by decide +kernel)]; kernel_rfl) | (rw [if_neg (by decide +kernel)]; exact ⟨rfl, rfl⟩))
    (fun os started H enc _ => storeTurned_lifted os started H enc)

theorem storeTurned_holds : Rows.StoreTurnedCardSaid :=
  Claim7.holds_tied_plain_at .later [] [.data] true (true, "75af6b1a67402ee53174add1138896b9866a34e88f0a55261651643709f35bea") false storeTurned_over (fun _ h => by cases h) (by kernel_rfl) (fun _ h => by cases h) storeTurned_row_tie rfl ⟨rfl, rfl⟩ (by kernel_rfl) rfl
    (fun f fn hf hfn => by
      obtain rfl : f = 5 := Option.some.inj ((show Tryd.prog.funcNamed "tideline/tidelinelaw08.StoreTurned" = some 5 by kernel_rfl).symm.trans hf) |>.symm
      obtain rfl : fn = Tryd.f5 := (Option.some.inj (Tryd.func5.symm.trans hfn)).symm
      exact ⟨by kernel_rfl, fun j t ht => by
        rw [show Tryd.f5.params = #[22, 53] from rfl] at ht
        have hm : t ∈ [22, 53] := by simpa using Array.mem_of_getElem? ht
        have hall : ([22, 53].all fun u => !Tryd.prog.wantsStandIn u) = true := by kernel_rfl
        exact (show Tryd.prog.wantsStandIn t = false by simpa using List.all_eq_true.1 hall t hm)⟩)
    (by kernel_rfl)
#print axioms storeTurned_holds
end Go.Proofs.YtokcgnbjkbhmiaaDoor
