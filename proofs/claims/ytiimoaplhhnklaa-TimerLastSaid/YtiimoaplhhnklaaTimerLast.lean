/- TimerLast: whatever names and times are handed in, the law returns true, and the arguments read afterwards as before. No condition. -/
import Derived.Test.YtiimoaplhhnklaaRows
import Derived.Test.YtiimoaplhhnklaaSI
import Derived.Test.YtiimoaplhhnklaaOp0
import Derived.Test.YtiimoaplhhnklaaLift
namespace Go.Proofs.Ytiimoaplhhnklaa
open Go.RowKit Go.ChangeShapes Go.WideShapes Go.ChangeAt Go.Joins
set_option maxHeartbeats 4000000
set_option maxRecDepth 100000
set_option linter.unusedSimpArgs false
set_option linter.unusedVariables false

theorem cName : Try.prog.cellsOf 54 = 3 := by kernel_rfl
instance : Inhabited Nm := ⟨(0, 0, 0)⟩
section
variable {H : Type} {enc : TypeId × Value → H}
theorem open_intsV {W : World} {base : Nat} {v : Value} {d : DataW H} {p : List MemPlace} (hval : Value.okWide Try.prog W .any base 49 v)
    (h : DataW.Trod enc Try.prog W 0 (fun _ => true) true 49 v d p) (hw : ∀ m ∈ d.weights Try.prog 49, m ≤ reachBytes) : ∃ P : List Int, IntsSl W v P := by
  obtain ⟨a, len, cap, rfl⟩ := okWide_slice Try.underlying49 hval
  obtain ⟨fuel, hf⟩ := h
  obtain ⟨a', c, P, e, h1, h2, h3⟩ := open_list (α := Int) Try.underlying49 cInt (by omega) (of_decide_eq_true (by kernel_rfl)) (fun r cs => cs = [.int .i64 r] ∧ (-9223372036854775808 ≤ r ∧ r ≤ 9223372036854775807)) (fun _ _ _ h _ => by
    obtain ⟨m, e, -, r⟩ := DataW.trod_int Try.underlying3 h
    exact ⟨m, e, i64_of r⟩) hf hw
  simp only [Value.cells] at e hf
  simp at e
  obtain ⟨rfl, rfl, rfl⟩ := e
  refine ⟨P, a, cap, rfl, h1, by unfold reachBytes at h2; omega, fun x hx => ?_, fun hp => ?_⟩
  · obtain ⟨i, hi, rfl⟩ := List.getElem_of_mem hx
    obtain ⟨b, o, -, hE⟩ := h3 (by omega)
    obtain ⟨vs, -, ⟨-, h⟩, -⟩ := hE i hi
    exact h
  · obtain ⟨b, o, rfl, hE⟩ := h3 hp
    refine ⟨b, o, rfl, fun i hi => ?_⟩
    obtain ⟨vs, -, ⟨rfl, -⟩, hc⟩ := hE i hi
    simpa using hc 0 (by omega)
variable {W : World} {n : Nat} {cs : List Value} {x : DataW H × List MemPlace}
theorem open_name (h : DataW.trod enc Try.prog W 0 (fun _ => true) true n 54 cs = some x) : ∃ m : Nm, cs = [.int .i64 m.1, .int .i64 m.2.1, .int .i64 m.2.2] := by
  obtain ⟨y0, y1, y2, m, -, hl, h0, h1, h2⟩ := Go.Deep.trod_struct3 Try.underlying54 h
  obtain ⟨c0, c1, c2, rfl⟩ := list3 (hl.trans cName)
  simp only [cInt, List.drop_zero, List.drop_succ_cons, List.take_succ_cons, List.take_zero] at h0 h1 h2
  obtain ⟨z0, e0, -, -⟩ := DataW.trod_int Try.underlying3 h0
  obtain ⟨z1, e1, -, -⟩ := DataW.trod_int Try.underlying3 h1
  obtain ⟨z2, e2, -, -⟩ := DataW.trod_int Try.underlying3 h2
  simp at e0 e1 e2
  subst e0 e1 e2
  exact ⟨(z0, z1, z2), rfl⟩
theorem open_namesV {W : World} {base : Nat} {v : Value} {d : DataW H} {p : List MemPlace} (hval : Value.okWide Try.prog W .any base 48 v)
    (h : DataW.Trod enc Try.prog W 0 (fun _ => true) true 48 v d p) (hw : ∀ m ∈ d.weights Try.prog 48, m ≤ reachBytes) : ∃ N : List Nm, NamesSl W v N := by
  obtain ⟨a, len, cap, rfl⟩ := okWide_slice Try.underlying48 hval
  obtain ⟨fuel, hf⟩ := h
  obtain ⟨a', c, N, e, h1, h2, h3⟩ := open_list (α := Nm) Try.underlying48 cName (by omega) (of_decide_eq_true (by kernel_rfl)) (fun m cs => cs = [.int .i64 m.1, .int .i64 m.2.1, .int .i64 m.2.2]) (fun _ _ _ h _ => open_name h) hf hw
  simp only [Value.cells] at e hf
  simp at e
  obtain ⟨rfl, rfl, rfl⟩ := e
  refine ⟨N, a, cap, rfl, h1, by unfold reachBytes at h2; omega, fun hp => ?_⟩
  obtain ⟨b, o, rfl, hE⟩ := h3 hp
  refine ⟨b, o, rfl, fun i hi => ?_⟩
  obtain ⟨vs, -, rfl, hc⟩ := hE i hi
  exact ⟨by simpa using hc 0 (by omega), by simpa using hc 1 (by omega), by simpa using hc 2 (by omega)⟩
end
theorem timerLast_lifted (os : Os) (started : os.Started) (H : Type) (enc : TypeId × Value → H) :
    ReturnsInHanded {} Try.checked os 5 .any (Rows.timerLastSpec.pre6 enc Try.prog Try.f5 Rows.timerLastRow.domain false) (Rows.timerLastSpec.post enc Try.prog Try.f5 false true false false) := by
  refine law_lift (C := Try.checked) (tb := 4) ownNone started (by kernel_rfl) Try.func5
    (ChangeSpec.witness6 (enc := enc) (C := Try.checked) false ⟨#[], #[.slice none 0 0, .slice none 0 0], []⟩ 8 (by kernel_rfl) (by kernel_rfl) (by kernel_rfl) (by kernel_rfl))
    rfl (fun ds h => ?_) (by rfl) Try.underlying4 (by kernel_rfl) ?_ ?_
  · match ds, h with
    | [_, _], _ => rfl
  · intro t ht
    have e : t = 48 ∨ t = 49 := by
      have : Try.f5.params.toList = [48, 49] := by rfl
      rw [this] at ht; simpa using ht
    rcases e with rfl | rfl
    · exact ⟨by kernel_rfl, of_decide_eq_true (by kernel_rfl)⟩
    · exact ⟨by kernel_rfl, of_decide_eq_true (by kernel_rfl)⟩
  · intro W base args ds ps hval hA hw
    have hp : Try.f5.params = #[48, 49] := by rfl
    rw [hp] at hA hval hw
    obtain ⟨v0, v1, d0, d1, p0, p1, rfl, rfl, rfl, h0, h1⟩ := trodAll_two hA
    obtain ⟨L, hL⟩ := open_namesV (hval 0 48 v0 rfl rfl) h0 (fun m hm => by
      have := List.all_eq_true.1 hw m (DataW.weights_mem_each (j := 0) rfl rfl m hm)
      simpa using this)
    obtain ⟨P, hP⟩ := open_intsV (hval 1 49 v1 rfl rfl) h1 (fun m hm => by
      have := List.all_eq_true.1 hw m (DataW.weights_mem_each (j := 1) rfl rfl m hm)
      simpa using this)
    exact timerLast_walk L P v0 v1 W hL hP

theorem timerLast_over : Rows.timerLastRow.holds Try.pinned (OpenSpec.ofChange Rows.timerLastSpec) :=
  OpenClaim.holds_of_wide 5 Try.f5 rfl rfl rfl rfl rfl rfl rfl ⟨rfl, rfl, rfl, rfl, rfl⟩ rfl rfl rfl rfl rfl (by kernel_rfl) Try.func5 (by kernel_rfl)
    (of_decide_eq_true (by kernel_rfl)) (by unfold Func.isWrapper; first | (rw [if_pos (by decide +kernel)]; kernel_rfl) | (rw [if_neg (by decide +kernel)]; exact ⟨rfl, rfl⟩))
    (fun os started H enc _ => timerLast_lifted os started H enc)

theorem timerLast_holds : Rows.TimerLastSaid := timerLast_over
#print axioms timerLast_holds
end Go.Proofs.Ytiimoaplhhnklaa
