/- Ghosts: openers of arguments. -/
import Derived.Test.YtiimoaplhhnklaaDoorFO
import Derived.Test.YtiimoaplhhnklaaDoorHI
namespace Go.Proofs.YtiimoaplhhnklaaDoor
open Go.RowKit Go.ChangeShapes Go.WideShapes Go.ChangeAt Go.Joins
set_option maxHeartbeats 4000000
set_option maxRecDepth 100000
set_option linter.unusedSimpArgs false
set_option linter.unusedVariables false

theorem ownNone : ownKnob Tryd.prog.godebug = none := by kernel_rfl
section
variable {H : Type} {enc : TypeId × Value → H}
theorem open_entsV {W : World} {base : Nat} {v : Value} {d : DataW H} {p : List MemPlace} (hval : Value.okWide Tryd.prog W .any base 22 v)
    (h : DataW.Trod enc Tryd.prog W 0 (fun _ => true) true 22 v d p) (hw : ∀ m ∈ d.weights Tryd.prog 22, m ≤ reachBytes) : ∃ l : List Ent, EntSl W v l := by
  obtain ⟨a, len, cap, rfl⟩ := okWide_slice Tryd.underlying22 hval
  obtain ⟨fuel, hf⟩ := h
  obtain ⟨v', l, e, hP⟩ := open_ents hf hw
  simp only [Value.cells] at e
  simp at e
  subst e
  exact ⟨l, hP⟩
instance : Inhabited (Value × List Ent) := ⟨(undef, [])⟩
theorem open_seenV {W : World} {base : Nat} {v : Value} {d : DataW H} {p : List MemPlace} (hval : Value.okWide Tryd.prog W .any base 77 v)
    (h : DataW.Trod enc Tryd.prog W 0 (fun _ => true) true 77 v d p) (hw : ∀ m ∈ d.weights Tryd.prog 77, m ≤ reachBytes) : ∃ S : List (List Ent), SnSl W v S := by
  obtain ⟨a, len, cap, rfl⟩ := okWide_slice Tryd.underlying77 hval
  obtain ⟨fuel, hf⟩ := h
  obtain ⟨a', c, l, e, h1, h2, h3⟩ := open_list (α := Value × List Ent) (W := W) Tryd.underlying77 cEnts (by omega) (of_decide_eq_true (by kernel_rfl)) (fun p cs => cs = [p.1] ∧ EntSl W p.1 p.2) (fun _ _ _ h h' => by
    obtain ⟨v, l, e, hs⟩ := open_ents h h'
    exact ⟨(v, l), e, hs⟩) hf hw
  simp only [Value.cells] at e
  simp at e
  obtain ⟨rfl, rfl, rfl⟩ := e
  refine ⟨l.map (·.2), a, cap, by simp, by simpa using h1, by have := h2; unfold reachBytes at this; simp; omega, fun hp => ?_⟩
  simp only [List.length_map] at hp
  obtain ⟨b, o, rfl, hE⟩ := h3 hp
  refine ⟨b, o, rfl, fun i hi => ?_⟩
  simp only [List.length_map] at hi
  obtain ⟨vs, -, ⟨rfl, hs⟩, hc⟩ := hE i hi
  exact ⟨_, by simpa using hc 0 (by omega), by simpa using hs⟩
theorem open_intV {W : World} {base : Nat} {v : Value} {d : DataW H} {p : List MemPlace} (hval : Value.okWide Tryd.prog W .any base 3 v)
    (h : DataW.Trod enc Tryd.prog W 0 (fun _ => true) true 3 v d p) : ∃ n : Int, v = .int .i64 n := by
  obtain ⟨n, rfl⟩ := okWide_int Tryd.underlying3 hval
  obtain ⟨fuel, hf⟩ := h
  simp only [Value.cells] at hf
  obtain ⟨m, e, -, r⟩ := DataW.trod_int Tryd.underlying3 hf
  simp at e
  subst e
  exact ⟨n, rfl⟩
end
end Go.Proofs.YtiimoaplhhnklaaDoor
