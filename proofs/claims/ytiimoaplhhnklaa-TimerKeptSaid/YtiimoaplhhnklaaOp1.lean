/- Openers of scripts of timers' steps. -/
import Derived.Test.YtiimoaplhhnklaaSV
import Derived.Test.YtiimoaplhhnklaaOp0
namespace Go.Proofs.Ytiimoaplhhnklaa
open Go.RowKit Go.ChangeShapes Go.WideShapes Go.ChangeAt Go.Joins
set_option maxHeartbeats 4000000
set_option maxRecDepth 100000
set_option linter.unusedSimpArgs false
set_option linter.unusedVariables false

theorem cName' : Try.prog.cellsOf 54 = 3 := by kernel_rfl
theorem cOp : Try.prog.cellsOf 68 = 7 := by kernel_rfl
theorem list7 {cs : List Value} (h : cs.length = 7) : ∃ a b c d e f g, cs = [a, b, c, d, e, f, g] := by
  match cs, h with
  | [a, b, c, d, e, f, g], _ => exact ⟨a, b, c, d, e, f, g, rfl⟩
section
variable {H : Type} {enc : TypeId × Value → H}
variable {W : World} {n : Nat} {cs : List Value} {x : DataW H × List MemPlace}
theorem open_name' (h : DataW.trod enc Try.prog W 0 (fun _ => true) true n 54 cs = some x) : ∃ m : Nm, cs = [.int .i64 m.1, .int .i64 m.2.1, .int .i64 m.2.2] := by
  obtain ⟨y0, y1, y2, m, -, hl, h0, h1, h2⟩ := Go.Deep.trod_struct3 Try.underlying54 h
  obtain ⟨c0, c1, c2, rfl⟩ := list3 (hl.trans cName')
  simp only [cInt, List.drop_zero, List.drop_succ_cons, List.take_succ_cons, List.take_zero] at h0 h1 h2
  obtain ⟨z0, e0, -, -⟩ := DataW.trod_int Try.underlying3 h0
  obtain ⟨z1, e1, -, -⟩ := DataW.trod_int Try.underlying3 h1
  obtain ⟨z2, e2, -, -⟩ := DataW.trod_int Try.underlying3 h2
  simp at e0 e1 e2
  subst e0 e1 e2
  exact ⟨(z0, z1, z2), rfl⟩
theorem trod_struct5 {P : Program} {t : TypeId} {f0 f1 f2 f3 f4 : Field} (ht : P.underlying t = some (.struct #[f0, f1, f2, f3, f4])) (h : DataW.trod enc P W 0 (fun _ => true) true n t cs = some x) :
    ∃ y0 y1 y2 y3 y4 m, x.1 = .agg [y0.1, y1.1, y2.1, y3.1, y4.1] ∧ cs.length = P.cellsOf t ∧ DataW.trod enc P W 0 (fun _ => true) true m f0.type ((cs.drop f0.offset).take (P.cellsOf f0.type)) = some y0 ∧
      DataW.trod enc P W 0 (fun _ => true) true m f1.type ((cs.drop f1.offset).take (P.cellsOf f1.type)) = some y1 ∧ DataW.trod enc P W 0 (fun _ => true) true m f2.type ((cs.drop f2.offset).take (P.cellsOf f2.type)) = some y2 ∧
      DataW.trod enc P W 0 (fun _ => true) true m f3.type ((cs.drop f3.offset).take (P.cellsOf f3.type)) = some y3 ∧ DataW.trod enc P W 0 (fun _ => true) true m f4.type ((cs.drop f4.offset).take (P.cellsOf f4.type)) = some y4 := by
  obtain ⟨xs, m, -, rfl, hl, hlen, hf⟩ := DataW.trod_struct ht h
  match xs, hlen with
  | [y0, y1, y2, y3, y4], _ => exact ⟨y0, y1, y2, y3, y4, m, by simp, hl, by simpa using hf 0 f0 rfl, by simpa using hf 1 f1 rfl, by simpa using hf 2 f2 rfl, by simpa using hf 3 f3 rfl, by simpa using hf 4 f4 rfl⟩

theorem open_op (h : DataW.trod enc Try.prog W 0 (fun _ => true) true n 68 cs = some x) : ∃ o : TOp, cs = [.int .i64 o.k, .int .i64 o.n.1, .int .i64 o.n.2.1, .int .i64 o.n.2.2, .int .i64 o.t, .int .i64 o.stop, .bool o.snd] := by
  obtain ⟨y0, y1, y2, y3, y4, m, -, hl, h0, h1, h2, h3, h4⟩ := trod_struct5 Try.underlying68 h
  obtain ⟨c0, c1, c2, c3, c4, c5, c6, rfl⟩ := list7 (hl.trans cOp)
  simp only [cInt, cName', cBool, Nat.reduceAdd, List.drop_zero, List.drop_succ_cons, List.take_succ_cons, List.take_zero] at h0 h1 h2 h3 h4
  obtain ⟨z0, e0, -, -⟩ := DataW.trod_int Try.underlying3 h0
  obtain ⟨z1, e1⟩ := open_name' h1
  obtain ⟨z2, e2, -, -⟩ := DataW.trod_int Try.underlying3 h2
  obtain ⟨z3, e3, -, -⟩ := DataW.trod_int Try.underlying3 h3
  obtain ⟨z4, e4, -⟩ := DataW.trod_bool Try.underlying4 h4
  simp at e0 e1 e2 e3 e4
  obtain ⟨rfl, rfl, rfl⟩ := e1
  subst e0 e2 e3 e4
  exact ⟨⟨z0, z1, z2, z3, z4⟩, rfl⟩
theorem open_opsV {W : World} {base : Nat} {v : Value} {d : DataW H} {p : List MemPlace} (hval : Value.okWide Try.prog W .any base 62 v)
    (h : DataW.Trod enc Try.prog W 0 (fun _ => true) true 62 v d p) (hw : ∀ m ∈ d.weights Try.prog 62, m ≤ reachBytes) : ∃ N : List TOp, OpsSl W v N := by
  obtain ⟨a, len, cap, rfl⟩ := okWide_slice Try.underlying62 hval
  obtain ⟨fuel, hf⟩ := h
  obtain ⟨a', c, N, e, h1, h2, h3⟩ := open_list (α := TOp) Try.underlying62 cOp (by omega) (of_decide_eq_true (by kernel_rfl)) (fun o cs => cs = [.int .i64 o.k, .int .i64 o.n.1, .int .i64 o.n.2.1, .int .i64 o.n.2.2, .int .i64 o.t, .int .i64 o.stop, .bool o.snd]) (fun _ _ _ h _ => open_op h) hf hw
  simp only [Value.cells] at e hf
  simp at e
  obtain ⟨rfl, rfl, rfl⟩ := e
  refine ⟨N, a, cap, rfl, h1, by unfold reachBytes at h2; omega, fun hp => ?_⟩
  obtain ⟨b, o, rfl, hE⟩ := h3 hp
  refine ⟨b, o, rfl, fun i hi => ?_⟩
  obtain ⟨vs, -, rfl, hc⟩ := hE i hi
  exact ⟨by simpa using hc 0 (by omega), by simpa using hc 1 (by omega), by simpa using hc 2 (by omega), by simpa using hc 3 (by omega), by simpa using hc 4 (by omega), by simpa using hc 5 (by omega), by simpa using hc 6 (by omega)⟩
end
end Go.Proofs.Ytiimoaplhhnklaa
