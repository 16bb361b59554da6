/- TreeTurned: whatever rows and picks are handed in, the law returns true, and the arguments read afterwards as before. No condition. -/
import Derived.Test.YtgglbohcnlcagaaRows
import Derived.Test.YtgglbohcnlcagaaUC
import Derived.Test.YtgglbohcnlcagaaTW
import Derived.Test.YtgglbohcnlcagaaLift
namespace Go.Proofs.Ytgglbohcnlcagaa
open Go.RowKit Go.ChangeShapes Go.WideShapes Go.ChangeAt Go.Joins
set_option maxHeartbeats 4000000
set_option maxRecDepth 100000
set_option linter.unusedSimpArgs false
set_option linter.unusedVariables false

theorem ownTT : ownKnob Try.prog.godebug = none := by kernel_rfl
theorem bInt : Try.prog.bytesOf 3 = 8 := by kernel_rfl
section
variable {H : Type} {enc : TypeId × Value → H}
theorem open_intsV {W : World} {base : Nat} {v : Value} {d : DataW H} {p : List MemPlace} (hval : Value.okWide Try.prog W .any base 73 v)
    (h : DataW.Trod enc Try.prog W 0 (fun _ => true) true 73 v d p) (hw : ∀ m ∈ d.weights Try.prog 73, m ≤ reachBytes) : ∃ P : List Int, IntsSl W v P := by
  obtain ⟨a, len, cap, rfl⟩ := okWide_slice Try.underlying73 hval
  obtain ⟨fuel, hf⟩ := h
  obtain ⟨a', c, P, e, h1, h2, h3⟩ := open_list (α := Int) Try.underlying73 cInt (by omega) (of_decide_eq_true (by kernel_rfl)) (fun r cs => cs = [.int .i64 r] ∧ (-9223372036854775808 ≤ r ∧ r ≤ 9223372036854775807)) (fun _ _ _ h _ => by
    obtain ⟨m, e, -, r⟩ := DataW.trod_int Try.underlying3 h
    exact ⟨m, e, i64_of r⟩) hf hw
  simp only [Value.cells] at e hf
  simp at e
  obtain ⟨rfl, rfl, rfl⟩ := e
  refine ⟨P, a, cap, rfl, h1, by unfold reachBytes at h2; omega, fun x hx => ?_, fun hp => ?_⟩
  · obtain ⟨i, hi, rfl⟩ := List.getElem_of_mem hx
    obtain ⟨b, o, -, hE⟩ := h3 (by omega)
    obtain ⟨vs, -, ⟨-, h⟩, -⟩ := hE i hi
    exact h
  · obtain ⟨b, o, rfl, hE⟩ := h3 hp
    refine ⟨b, o, rfl, fun i hi => ?_⟩
    obtain ⟨vs, -, ⟨rfl, -⟩, hc⟩ := hE i hi
    simpa using hc 0 (by omega)
end
theorem treeTurned_lifted (os : Os) (started : os.Started) (H : Type) (enc : TypeId × Value → H) :
    ReturnsInHanded {} Try.checked os 7 .any (Rows.treeTurnedSpec.pre6 enc Try.prog Try.f7 Rows.treeTurnedRow.domain false) (Rows.treeTurnedSpec.post enc Try.prog Try.f7 false true false false) := by
  refine law_lift (C := Try.checked) (tb := 4) ownTT started (by kernel_rfl) Try.func7
    (ChangeSpec.witness6 (enc := enc) (C := Try.checked) false ⟨#[], #[.slice none 0 0, .slice none 0 0], []⟩ 8 (by kernel_rfl) (by kernel_rfl) (by kernel_rfl) (by kernel_rfl))
    rfl (fun ds h => ?_) (by rfl) Try.underlying4 (by kernel_rfl) ?_ ?_
  · match ds, h with
    | [_, _], _ => rfl
  · intro t ht
    have e : t = 55 ∨ t = 73 := by
      have : Try.f7.params.toList = [55, 73] := by rfl
      rw [this] at ht; simpa using ht
    rcases e with rfl | rfl
    · exact ⟨by kernel_rfl, of_decide_eq_true (by kernel_rfl)⟩
    · exact ⟨by kernel_rfl, of_decide_eq_true (by kernel_rfl)⟩
  · intro W base args ds ps hval hA hw
    have hp : Try.f7.params = #[55, 73] := by rfl
    rw [hp] at hA hval hw
    obtain ⟨v0, v1, d0, d1, p0, p1, rfl, rfl, rfl, h0, h1⟩ := trodAll_two hA
    obtain ⟨L, hL, hr⟩ := open_rowsV (hval 0 55 v0 rfl rfl) h0 (fun m hm => by
      have := List.all_eq_true.1 hw m (DataW.weights_mem_each (j := 0) rfl rfl m hm)
      simpa using this)
    obtain ⟨P, hP⟩ := open_intsV (hval 1 73 v1 rfl rfl) h1 (fun m hm => by
      have := List.all_eq_true.1 hw m (DataW.weights_mem_each (j := 1) rfl rfl m hm)
      simpa using this)
    exact treeTurned_walk L P v0 v1 W hL hr hP

theorem treeTurned_over : Rows.treeTurnedRow.holds Try.pinned (OpenSpec.ofChange Rows.treeTurnedSpec) :=
  OpenClaim.holds_of_wide 7 Try.f7 rfl rfl rfl rfl rfl rfl rfl ⟨rfl, rfl, rfl, rfl, rfl⟩ rfl rfl rfl rfl rfl (by kernel_rfl) Try.func7 (by kernel_rfl)
    (of_decide_eq_true (by kernel_rfl)) (by unfold Func.isWrapper; first | (rw [if_pos (by decide +kernel)]; kernel_rfl) | (rw [if_neg (by decide +kernel)]; exact ⟨rfl, rfl⟩))
    (fun os started H enc _ => treeTurned_lifted os started H enc)

theorem treeTurned_holds : Rows.TreeTurnedSaid := treeTurned_over
#print axioms treeTurned_holds
end Go.Proofs.Ytgglbohcnlcagaa
