/- What the listed variable mix.lanes reads as, cell by cell. -/
import Derived.Test.YtokcgnbjkbhmiaaDoorRows
import Derived.Test.YtokcgnbjkbhmiaaDoorMKO
import Derived.Test.YtokcgnbjkbhmiaaDoorMFO
import Derived.MakeChecks
import Derived.Deep.Slices
namespace Go.Proofs.YtokcgnbjkbhmiaaDoor
open Go.RowKit Go.ChangeShapes Go.WideShapes Go.ChangeAt Go.Joins
set_option maxHeartbeats 4000000
set_option maxRecDepth 100000
set_option linter.unusedSimpArgs false
set_option linter.unusedVariables false

theorem cLane : Tryd.prog.cellsOf 196 = 3 := by kernel_rfl
theorem cU64 : Tryd.prog.cellsOf 28 = 1 := by kernel_rfl
theorem cIntL : Tryd.prog.cellsOf 3 = 1 := by kernel_rfl
theorem open_lane {W : World} {H : Type} {enc : TypeId × Value → H} {n : Nat} {cs : List Value} {x : DataW H × List MemPlace} {sp : Nat → Bool} {held : Bool} (h : DataW.trod enc Tryd.prog W 0 sp held n 196 cs = some x) :
    ∃ a b c : Int, cs = [.int .u64 a, .int .u64 b, .int .i64 c] ∧ x.1 = .agg [.lit (.int .u64 a), .lit (.int .u64 b), .lit (.int .i64 c)] := by
  obtain ⟨y0, y1, y2, m, hx, hl, h0, h1, h2⟩ := Go.Deep.trod_struct3 Tryd.underlying196 h
  obtain ⟨c0, c1, c2, rfl⟩ := list3 (hl.trans cLane)
  simp only [cU64, cIntL, List.drop_zero, List.drop_succ_cons, List.take_succ_cons, List.take_zero] at h0 h1 h2
  obtain ⟨a, e0, r0, -⟩ := DataW.trod_int Tryd.underlying28 h0
  obtain ⟨b, e1, r1, -⟩ := DataW.trod_int Tryd.underlying28 h1
  obtain ⟨c, e2, r2, -⟩ := DataW.trod_int Tryd.underlying3 h2
  simp at e0 e1 e2
  subst e0 e1 e2
  refine ⟨a, b, c, rfl, ?_⟩
  rw [hx, r0, r1, r2]
theorem lanes_laid {W : World} (h : laidMetH Tryd.prog [("tideline/mix.lanes", Rows.laid_tideline_mix_lanes)] W) : LanesAt W := by
  rw [MakeChecks.laidMetH_plain _ _ _ (by kernel_rfl)] at h
  obtain ⟨ps, ⟨g, t, cs, fuel, p, q, hg, ht, hv, hd, _, _⟩, _, _⟩ := h
  obtain rfl := Option.some.inj ((show Tryd.prog.globalNamed "tideline/mix.lanes" = some 0 by kernel_rfl).symm.trans hg)
  obtain rfl := Option.some.inj ((show (Tryd.prog.globals[0]?).map (·.type) = some 197 by kernel_rfl).symm.trans ht)
  obtain ⟨xs, m, _, ex, hcl, hl, hel⟩ := DataW.trod_array Tryd.underlying197 hd
  have k0 := hel 0 (by decide)
  have k1 := hel 1 (by decide)
  simp only [cLane, Nat.zero_mul, Nat.one_mul, List.drop_zero] at k0 k1
  obtain ⟨x0, x1, rfl⟩ : ∃ z0 z1, xs = [z0, z1] := by
    match xs, hl with
    | [z0, z1], _ => exact ⟨z0, z1, rfl⟩
  obtain ⟨a0, b0, c0, e0, r0⟩ := open_lane (x := x0) k0
  obtain ⟨a1, b1, c1, e1, r1⟩ := open_lane (x := x1) k1
  have ee := (Prod.mk.inj ex).1
  unfold Rows.laid_tideline_mix_lanes at ee
  simp only [List.map_cons, List.map_nil, r0, r1] at ee
  simp only [DataW.agg.injEq, List.cons.injEq, DataW.lit.injEq, Lit.int.injEq, true_and, and_true] at ee
  obtain ⟨⟨rfl, rfl, rfl⟩, rfl, rfl, rfl⟩ := ee
  have hc : ∀ i : Nat, cs.toList[i]? = ([.int .u64 2611923443488327891, .int .u64 11400714819323198485, .int .i64 29, .int .u64 1376283091369227076, .int .u64 14029467366897019727, .int .i64 32] : List Value)[i]? := fun i => by
    have : cs.toList = [.int .u64 2611923443488327891, .int .u64 11400714819323198485, .int .i64 29, .int .u64 1376283091369227076, .int .u64 14029467366897019727, .int .i64 32] := by
      have h6 : cs.toList.length = 6 := hcl.trans (show Tryd.prog.cellsOf 197 = 6 by kernel_rfl)
      match hcs : cs.toList, h6 with
      | [y0, y1, y2, y3, y4, y5], _ =>
        rw [hcs] at e0 e1
        simp at e0 e1
        obtain ⟨rfl, rfl, rfl⟩ := e0
        obtain ⟨rfl, rfl, rfl⟩ := e1
        rfl
    rw [this]
  have hw : ∀ i : Nat, W.cell? ⟨0, i, none⟩ = cs.toList[i]? := fun i => by
    rw [World.var?_cell hg hv i]
    simp
  exact ⟨(hw 0).trans (hc 0), (hw 1).trans (hc 1), (hw 2).trans (hc 2), (hw 3).trans (hc 3), (hw 4).trans (hc 4), (hw 5).trans (hc 5)⟩
end Go.Proofs.YtokcgnbjkbhmiaaDoor
