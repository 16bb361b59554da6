/- TreeScript: whatever script is handed in, the law returns true, and the arguments read afterwards as before. No condition. -/
import Derived.Test.YtgglbohcnlcagaaRows
import Derived.Test.YtgglbohcnlcagaaWI
import Derived.Test.YtgglbohcnlcagaaTW
import Derived.Test.YtgglbohcnlcagaaLift
namespace Go.Proofs.Ytgglbohcnlcagaa
open Go.RowKit Go.ChangeShapes Go.WideShapes Go.ChangeAt Go.Joins
set_option maxHeartbeats 4000000
set_option maxRecDepth 100000
set_option linter.unusedSimpArgs false
set_option linter.unusedVariables false

theorem ownTS : ownKnob Try.prog.godebug = none := by kernel_rfl
theorem cOp : Try.prog.cellsOf 94 = 8 := by kernel_rfl
theorem bOp : Try.prog.bytesOf 94 = 72 := by kernel_rfl
section
variable {H : Type} {enc : TypeId × Value → H} {W : World} {n : Nat} {cs : List Value} {x : DataW H × List MemPlace}
instance : Inhabited POp := ⟨⟨0, 0, 0, 0, 0, ⟨#[]⟩, 0, 0⟩⟩
theorem trod_struct7 {P : Program} {t : TypeId} {f0 f1 f2 f3 f4 f5 f6 : Field} (ht : P.underlying t = some (.struct #[f0, f1, f2, f3, f4, f5, f6])) (h : DataW.trod enc P W 0 (fun _ => true) true n t cs = some x) :
    ∃ y0 y1 y2 y3 y4 y5 y6 m, cs.length = P.cellsOf t ∧ DataW.trod enc P W 0 (fun _ => true) true m f0.type ((cs.drop f0.offset).take (P.cellsOf f0.type)) = some y0 ∧
      DataW.trod enc P W 0 (fun _ => true) true m f1.type ((cs.drop f1.offset).take (P.cellsOf f1.type)) = some y1 ∧ DataW.trod enc P W 0 (fun _ => true) true m f2.type ((cs.drop f2.offset).take (P.cellsOf f2.type)) = some y2 ∧
      DataW.trod enc P W 0 (fun _ => true) true m f3.type ((cs.drop f3.offset).take (P.cellsOf f3.type)) = some y3 ∧ DataW.trod enc P W 0 (fun _ => true) true m f4.type ((cs.drop f4.offset).take (P.cellsOf f4.type)) = some y4 ∧
      DataW.trod enc P W 0 (fun _ => true) true m f5.type ((cs.drop f5.offset).take (P.cellsOf f5.type)) = some y5 ∧ DataW.trod enc P W 0 (fun _ => true) true m f6.type ((cs.drop f6.offset).take (P.cellsOf f6.type)) = some y6 := by
  obtain ⟨xs, m, -, rfl, hl, hlen, hf⟩ := DataW.trod_struct ht h
  match xs, hlen with
  | [y0, y1, y2, y3, y4, y5, y6], _ => exact ⟨y0, y1, y2, y3, y4, y5, y6, m, hl, by simpa using hf 0 f0 rfl, by simpa using hf 1 f1 rfl, by simpa using hf 2 f2 rfl, by simpa using hf 3 f3 rfl, by simpa using hf 4 f4 rfl, by simpa using hf 5 f5 rfl, by simpa using hf 6 f6 rfl⟩
theorem open_op (h : DataW.trod enc Try.prog W 0 (fun _ => true) true n 94 cs = some x) :
    ∃ p : POp, cs = [.int .i64 p.kind, .int .i64 p.tree, .int .i64 p.i, .int .i64 p.j, .int .i64 p.v, .string p.key, .int .u64 p.s.1, .int .u64 p.s.2] ∧ OpOK p := by
  obtain ⟨y0, y1, y2, y3, y4, y5, y6, m, hl, h0, h1, h2, h3, h4, h5, h6⟩ := trod_struct7 Try.underlying94 h
  obtain ⟨c0, c1, c2, c3, c4, c5, c6, c7, rfl⟩ := list8 (hl.trans cOp)
  simp only [cInt, cStr, cMap, List.drop_zero, List.drop_succ_cons, List.take_succ_cons, List.take_zero] at h0 h1 h2 h3 h4 h5 h6
  obtain ⟨z0, e0, -, r0⟩ := DataW.trod_int Try.underlying3 h0
  obtain ⟨z1, e1, -, r1⟩ := DataW.trod_int Try.underlying3 h1
  obtain ⟨z2, e2, -, r2⟩ := DataW.trod_int Try.underlying3 h2
  obtain ⟨z3, e3, -, r3⟩ := DataW.trod_int Try.underlying3 h3
  obtain ⟨z4, e4, -, r4⟩ := DataW.trod_int Try.underlying3 h4
  obtain ⟨key, e5, -, -⟩ := DataW.trod_string Try.underlying9 h5
  obtain ⟨s, e6, hs⟩ := open_map h6
  simp at e0 e1 e2 e3 e4 e5 e6
  obtain ⟨rfl, rfl⟩ := e6
  subst e0 e1 e2 e3 e4 e5
  exact ⟨⟨z0, z1, z2, z3, z4, key, s⟩, rfl, ⟨i64_of r0, i64_of r1, i64_of r2, i64_of r3, i64_of r4, hs⟩⟩
theorem open_opsV {W : World} {base : Nat} {v : Value} {d : DataW H} {p : List MemPlace} (hval : Value.okWide Try.prog W .any base 90 v)
    (h : DataW.Trod enc Try.prog W 0 (fun _ => true) true 90 v d p) (hw : ∀ m ∈ d.weights Try.prog 90, m ≤ reachBytes) : ∃ L : List POp, OpsSl W v L ∧ L.length ≤ 2000000000000 := by
  obtain ⟨a, len, cap, rfl⟩ := okWide_slice Try.underlying90 hval
  obtain ⟨fuel, hf⟩ := h
  obtain ⟨a', c, L, e, h1, h2, h3⟩ := open_list (α := POp) Try.underlying90 cOp (by omega) (of_decide_eq_true (by kernel_rfl)) (fun p cs => cs = [.int .i64 p.kind, .int .i64 p.tree, .int .i64 p.i, .int .i64 p.j, .int .i64 p.v, .string p.key, .int .u64 p.s.1, .int .u64 p.s.2] ∧ OpOK p) (fun _ _ _ h _ => open_op h) hf hw
  simp only [Value.cells] at e hf
  simp at e
  obtain ⟨rfl, rfl, rfl⟩ := e
  have hroom := slice_room Try.underlying90 (x := (d, p)) (by simpa using hf) hw
  rw [bOp] at hroom
  refine ⟨L, ⟨a, cap, rfl, h1, by unfold reachBytes at hroom; omega, fun q hq => ?_, fun hp => ?_⟩, by unfold reachBytes at hroom; omega⟩
  · obtain ⟨i, hi, rfl⟩ := List.getElem_of_mem hq
    obtain ⟨b, o, -, hE⟩ := h3 (by omega)
    obtain ⟨vs, -, ⟨-, h⟩, -⟩ := hE i hi
    exact h
  · obtain ⟨b, o, rfl, hE⟩ := h3 hp
    refine ⟨b, o, rfl, fun i hi => ?_⟩
    obtain ⟨vs, -, ⟨rfl, -⟩, hc⟩ := hE i hi
    exact ⟨by simpa using hc 0 (by omega), by simpa using hc 1 (by omega), by simpa using hc 2 (by omega), by simpa using hc 3 (by omega), by simpa using hc 4 (by omega), by simpa using hc 5 (by omega), by simpa using hc 6 (by omega), by simpa using hc 7 (by omega)⟩
end
theorem treeScript_lifted (os : Os) (started : os.Started) (H : Type) (enc : TypeId × Value → H) :
    ReturnsInHanded {} Try.checked os 9 .any (Rows.treeScriptSpec.pre6 enc Try.prog Try.f9 Rows.treeScriptRow.domain false) (Rows.treeScriptSpec.post enc Try.prog Try.f9 false true false false) := by
  refine law_lift (C := Try.checked) (tb := 4) ownTS started (by kernel_rfl) Try.func9
    (ChangeSpec.witness6 (enc := enc) (C := Try.checked) false ⟨#[], #[.slice none 0 0], []⟩ 8 (by kernel_rfl) (by kernel_rfl) (by kernel_rfl) (by kernel_rfl))
    rfl (fun ds h => ?_) (by rfl) Try.underlying4 (by kernel_rfl) ?_ ?_
  · match ds, h with
    | [_], _ => rfl
  · intro t ht
    have e : t = 90 := by
      have : Try.f9.params.toList = [90] := by rfl
      rw [this] at ht; simpa using ht
    subst e
    exact ⟨by kernel_rfl, of_decide_eq_true (by kernel_rfl)⟩
  · intro W base args ds ps hval hA hw
    have hp : Try.f9.params = #[90] := by rfl
    rw [hp] at hA hval hw
    obtain ⟨v0, d0, rfl, rfl, h0⟩ := trodAll_one hA
    obtain ⟨L, hL, hlen⟩ := open_opsV (hval 0 90 v0 rfl rfl) h0 (fun m hm => by
      have := List.all_eq_true.1 hw m (DataW.weights_mem_each (j := 0) rfl rfl m hm)
      simpa using this)
    exact treeScript_walk L v0 W hL hlen

theorem treeScript_over : Rows.treeScriptRow.holds Try.pinned (OpenSpec.ofChange Rows.treeScriptSpec) :=
  OpenClaim.holds_of_wide 9 Try.f9 rfl rfl rfl rfl rfl rfl rfl ⟨rfl, rfl, rfl, rfl, rfl⟩ rfl rfl rfl rfl rfl (by kernel_rfl) Try.func9 (by kernel_rfl)
    (of_decide_eq_true (by kernel_rfl)) (by unfold Func.isWrapper; first | (rw [if_pos (by decide +kernel)]; kernel_rfl) | (rw [if_neg (by decide +kernel)]; exact ⟨rfl, rfl⟩))
    (fun os started H enc _ => treeScript_lifted os started H enc)

theorem treeScript_holds : Rows.TreeScriptSaid := treeScript_over
#print axioms treeScript_holds
end Go.Proofs.Ytgglbohcnlcagaa
