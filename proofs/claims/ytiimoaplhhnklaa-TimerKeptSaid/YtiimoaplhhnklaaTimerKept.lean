/- TimerKept: whatever script is handed in, the law returns true, and the argument reads afterwards as before. No condition. -/
import Derived.Test.YtiimoaplhhnklaaRows
import Derived.Test.YtiimoaplhhnklaaSX
import Derived.Test.YtiimoaplhhnklaaOp1
import Derived.Test.YtiimoaplhhnklaaLift
namespace Go.Proofs.Ytiimoaplhhnklaa
open Go.RowKit Go.ChangeShapes Go.WideShapes Go.ChangeAt Go.Joins
set_option maxHeartbeats 4000000
set_option maxRecDepth 100000
set_option linter.unusedSimpArgs false
set_option linter.unusedVariables false

section
variable {H : Type} {enc : TypeId × Value → H}
theorem open_intV {W : World} {base : Nat} {v : Value} {d : DataW H} {p : List MemPlace} (hval : Value.okWide Try.prog W .any base 3 v)
    (h : DataW.Trod enc Try.prog W 0 (fun _ => true) true 3 v d p) : ∃ n : Int, v = .int .i64 n ∧ (-9223372036854775808 ≤ n ∧ n ≤ 9223372036854775807) := by
  obtain ⟨n, rfl⟩ := okWide_int Try.underlying3 hval
  obtain ⟨fuel, hf⟩ := h
  simp only [Value.cells] at hf
  obtain ⟨m, e, -, r⟩ := DataW.trod_int Try.underlying3 hf
  simp at e
  subst e
  exact ⟨n, rfl, i64_of r⟩
end
theorem timerKept_lifted (os : Os) (started : os.Started) (H : Type) (enc : TypeId × Value → H) :
    ReturnsInHanded {} Try.checked os 7 .any (Rows.timerKeptSpec.pre6 enc Try.prog Try.f7 Rows.timerKeptRow.domain false) (Rows.timerKeptSpec.post enc Try.prog Try.f7 false true false false) := by
  refine law_lift (C := Try.checked) (tb := 4) ownNone started (by kernel_rfl) Try.func7
    (ChangeSpec.witness6 (enc := enc) (C := Try.checked) false ⟨#[], #[.slice none 0 0, .slice none 0 0, .int .i64 0], []⟩ 8 (by kernel_rfl) (by kernel_rfl) (by kernel_rfl) (by kernel_rfl))
    rfl (fun ds h => ?_) (by rfl) Try.underlying4 (by kernel_rfl) ?_ ?_
  · match ds, h with
    | [_, _, _], _ => rfl
  · intro t ht
    have e : t = 62 ∨ t = 3 := by
      have : Try.f7.params.toList = [62, 62, 3] := by rfl
      rw [this] at ht; simpa using ht
    rcases e with rfl | rfl
    · exact ⟨by kernel_rfl, of_decide_eq_true (by kernel_rfl)⟩
    · exact ⟨by kernel_rfl, of_decide_eq_true (by kernel_rfl)⟩
  · intro W base args ds ps hval hA hw
    have hp : Try.f7.params = #[62, 62, 3] := by rfl
    rw [hp] at hA hval hw
    obtain ⟨v0, v1, v2, d0, d1, d2, p0, p1, p2, rfl, rfl, rfl, h0, h1, h2⟩ := trodAll_three hA
    obtain ⟨N, hN⟩ := open_opsV (hval 0 62 v0 rfl rfl) h0 (fun m hm => by
      have := List.all_eq_true.1 hw m (DataW.weights_mem_each (j := 0) rfl rfl m hm)
      simpa using this)
    obtain ⟨M, hM⟩ := open_opsV (hval 1 62 v1 rfl rfl) h1 (fun m hm => by
      have := List.all_eq_true.1 hw m (DataW.weights_mem_each (j := 1) rfl rfl m hm)
      simpa using this)
    obtain ⟨i, rfl, ri⟩ := open_intV (hval 2 3 v2 rfl rfl) h2
    exact timerKept_walk N M v0 v1 i W hN hM

theorem timerKept_over : Rows.timerKeptRow.holds Try.pinned (OpenSpec.ofChange Rows.timerKeptSpec) :=
  OpenClaim.holds_of_wide 7 Try.f7 rfl rfl rfl rfl rfl rfl rfl ⟨rfl, rfl, rfl, rfl, rfl⟩ rfl rfl rfl rfl rfl (by kernel_rfl) Try.func7 (by kernel_rfl)
    (of_decide_eq_true (by kernel_rfl)) (by unfold Func.isWrapper; first | (rw [if_pos (by decide +kernel)]; kernel_rfl) | (rw [if_neg (by decide +kernel)]; exact ⟨rfl, rfl⟩))
    (fun os started H enc _ => timerKept_lifted os started H enc)

theorem timerKept_holds : Rows.TimerKeptSaid := timerKept_over
#print axioms timerKept_holds
end Go.Proofs.Ytiimoaplhhnklaa
