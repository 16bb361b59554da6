/- TreeTexts: whatever pairs and places are handed in, the law returns true, and the arguments read afterwards as before. No condition. -/
import Derived.Test.YtgglbohcnlcagaaRows
import Derived.Test.YtgglbohcnlcagaaTZ
import Derived.Test.YtgglbohcnlcagaaTW
import Derived.Test.YtgglbohcnlcagaaLift
namespace Go.Proofs.Ytgglbohcnlcagaa
open Go.RowKit Go.ChangeShapes Go.WideShapes Go.ChangeAt Go.Joins
set_option maxHeartbeats 4000000
set_option maxRecDepth 100000
set_option linter.unusedSimpArgs false
set_option linter.unusedVariables false

theorem ownTX : ownKnob Try.prog.godebug = none := by kernel_rfl
theorem cPair : Try.prog.cellsOf 79 = 2 := by kernel_rfl
theorem bPair : Try.prog.bytesOf 79 = 32 := by kernel_rfl
section
variable {H : Type} {enc : TypeId × Value → H}
instance : Inhabited P2 := ⟨⟨⟨#[]⟩, ⟨#[]⟩⟩⟩
theorem open_pair {W : World} {n : Nat} {cs : List Value} {x : DataW H × List MemPlace} (h : DataW.trod enc Try.prog W 0 (fun _ => true) true n 79 cs = some x) : ∃ r : P2, cs = [.string r.1, .string r.2] := by
  obtain ⟨y0, y1, m, -, hl, h0, h1⟩ := trod_struct2 Try.underlying79 h
  obtain ⟨c0, c1, rfl⟩ := list2 (hl.trans cPair)
  simp only [cStr, List.drop_zero, List.drop_succ_cons, List.take_succ_cons, List.take_zero] at h0 h1
  obtain ⟨a, e0, -, -⟩ := DataW.trod_string Try.underlying9 h0
  obtain ⟨b, e1, -, -⟩ := DataW.trod_string Try.underlying9 h1
  simp at e0 e1
  subst e0 e1
  exact ⟨(a, b), rfl⟩
theorem open_pairsV {W : World} {base : Nat} {v : Value} {d : DataW H} {p : List MemPlace} (hval : Value.okWide Try.prog W .any base 77 v)
    (h : DataW.Trod enc Try.prog W 0 (fun _ => true) true 77 v d p) (hw : ∀ m ∈ d.weights Try.prog 77, m ≤ reachBytes) : ∃ L : List P2, PairsSl W v L := by
  obtain ⟨a, len, cap, rfl⟩ := okWide_slice Try.underlying77 hval
  obtain ⟨fuel, hf⟩ := h
  obtain ⟨a', c, L, e, h1, h2, h3⟩ := open_list (α := P2) Try.underlying77 cPair (by omega) (of_decide_eq_true (by kernel_rfl)) (fun r cs => cs = [.string r.1, .string r.2]) (fun _ _ _ h _ => open_pair h) hf hw
  simp only [Value.cells] at e hf
  simp at e
  obtain ⟨rfl, rfl, rfl⟩ := e
  have hroom := slice_room Try.underlying77 (x := (d, p)) (by simpa using hf) hw
  rw [bPair] at hroom
  refine ⟨L, a, cap, rfl, h1, by unfold reachBytes at hroom; omega, fun hp => ?_⟩
  obtain ⟨b, o, rfl, hE⟩ := h3 hp
  refine ⟨b, o, rfl, fun i hi => ?_⟩
  obtain ⟨vs, -, rfl, hc⟩ := hE i hi
  exact ⟨by simpa using hc 0 (by omega), by simpa using hc 1 (by omega)⟩
theorem open_intV {W : World} {base : Nat} {v : Value} {d : DataW H} {p : List MemPlace} (hval : Value.okWide Try.prog W .any base 3 v)
    (h : DataW.Trod enc Try.prog W 0 (fun _ => true) true 3 v d p) : ∃ n : Int, v = .int .i64 n ∧ (-9223372036854775808 ≤ n ∧ n ≤ 9223372036854775807) := by
  obtain ⟨n, rfl⟩ := okWide_int Try.underlying3 hval
  obtain ⟨fuel, hf⟩ := h
  simp only [Value.cells] at hf
  obtain ⟨m, e, -, r⟩ := DataW.trod_int Try.underlying3 hf
  simp at e
  subst e
  exact ⟨n, rfl, i64_of r⟩
end
theorem treeTexts_lifted (os : Os) (started : os.Started) (H : Type) (enc : TypeId × Value → H) :
    ReturnsInHanded {} Try.checked os 8 .any (Rows.treeTextsSpec.pre6 enc Try.prog Try.f8 Rows.treeTextsRow.domain false) (Rows.treeTextsSpec.post enc Try.prog Try.f8 false true false false) := by
  refine law_lift (C := Try.checked) (tb := 4) ownTX started (by kernel_rfl) Try.func8
    (ChangeSpec.witness6 (enc := enc) (C := Try.checked) false ⟨#[], #[.slice none 0 0, .int .i64 0, .int .i64 0], []⟩ 8 (by kernel_rfl) (by kernel_rfl) (by kernel_rfl) (by kernel_rfl))
    rfl (fun ds h => ?_) (by rfl) Try.underlying4 (by kernel_rfl) ?_ ?_
  · match ds, h with
    | [_, _, _], _ => rfl
  · intro t ht
    have e : t = 77 ∨ t = 3 := by
      have : Try.f8.params.toList = [77, 3, 3] := by rfl
      rw [this] at ht; simpa using ht
    rcases e with rfl | rfl
    · exact ⟨by kernel_rfl, of_decide_eq_true (by kernel_rfl)⟩
    · exact ⟨by kernel_rfl, of_decide_eq_true (by kernel_rfl)⟩
  · intro W base args ds ps hval hA hw
    have hp : Try.f8.params = #[77, 3, 3] := by rfl
    rw [hp] at hA hval hw
    obtain ⟨v0, v1, v2, d0, d1, d2, p0, p1, p2, rfl, rfl, rfl, h0, h1, h2⟩ := trodAll_three hA
    obtain ⟨L, hL⟩ := open_pairsV (hval 0 77 v0 rfl rfl) h0 (fun m hm => by
      have := List.all_eq_true.1 hw m (DataW.weights_mem_each (j := 0) rfl rfl m hm)
      simpa using this)
    obtain ⟨i, rfl, ri⟩ := open_intV (hval 1 3 v1 rfl rfl) h1
    obtain ⟨j, rfl, rj⟩ := open_intV (hval 2 3 v2 rfl rfl) h2
    exact treeTexts_walk L v0 i j W hL ri rj

theorem treeTexts_over : Rows.treeTextsRow.holds Try.pinned (OpenSpec.ofChange Rows.treeTextsSpec) :=
  OpenClaim.holds_of_wide 8 Try.f8 rfl rfl rfl rfl rfl rfl rfl ⟨rfl, rfl, rfl, rfl, rfl⟩ rfl rfl rfl rfl rfl (by kernel_rfl) Try.func8 (by kernel_rfl)
    (of_decide_eq_true (by kernel_rfl)) (by unfold Func.isWrapper; first | (rw [if_pos (by decide +kernel)]; kernel_rfl) | (rw [if_neg (by decide +kernel)]; exact ⟨rfl, rfl⟩))
    (fun os started H enc _ => treeTexts_lifted os started H enc)

theorem treeTexts_holds : Rows.TreeTextsSaid := treeTexts_over
#print axioms treeTexts_holds
end Go.Proofs.Ytgglbohcnlcagaa
