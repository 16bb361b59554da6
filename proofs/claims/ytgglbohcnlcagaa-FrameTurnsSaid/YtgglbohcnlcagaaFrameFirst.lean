/- FrameFirst: whatever node, name and tally are handed in, the law returns true, and the arguments read afterwards as before. No condition. -/
import Derived.Test.YtgglbohcnlcagaaRows
import Derived.Test.YtgglbohcnlcagaaFB
import Derived.Test.YtgglbohcnlcagaaFD
import Derived.Test.YtgglbohcnlcagaaLift
import Derived.Lib.SmallJoins
namespace Go.Proofs.Ytgglbohcnlcagaa
open Go.RowKit Go.ChangeShapes Go.WideShapes Go.ChangeAt Go.Joins
set_option maxHeartbeats 4000000
set_option maxRecDepth 100000
set_option linter.unusedSimpArgs false
set_option linter.unusedVariables false

theorem prtSl_nil (w : World) : PrtSl w (.slice none 0 0) [] := ⟨none, 0, rfl, Nat.le_refl _, by simp, fun h => absurd h (by simp)⟩
theorem frameFirst_walk (peer o li nu cnt s0 s1 : Int) (w : World) :
    Calls Try.prog 10 #[.int .i64 peer, .agg #[.int .i64 o, .int .i64 li, .int .i64 nu], .agg #[.int .i64 cnt, .int .u64 s0, .int .u64 s1]] w fun e w' => e = .returned (.bool true) ∧ Ext w w' := by
  go_enter Try.func10, Try.ntmps10
  go_wp2_with fail
  refine (fFirst_any peer o li nu cnt s0 s1 _).mono ?_
  rintro e w1 ⟨h1, h2, hx1⟩
  have p0 : w1.cell? ⟨w.heap.size, 0, none⟩ = some (.int .i64 o) := cell_ext hx1 (by go_simp)
  have p1 : w1.cell? ⟨w.heap.size, 1, none⟩ = some (.int .i64 li) := cell_ext hx1 (by go_simp)
  have p2 : w1.cell? ⟨w.heap.size, 2, none⟩ = some (.int .i64 nu) := cell_ext hx1 (by go_simp)
  have p3 : w1.cell? ⟨w.heap.size + 1, 0, none⟩ = some (.int .i64 cnt) := cell_ext hx1 (by go_simp)
  have p4 : w1.cell? ⟨w.heap.size + 1, 1, none⟩ = some (.int .u64 s0) := cell_ext hx1 (by go_simp)
  have p5 : w1.cell? ⟨w.heap.size + 1, 2, none⟩ = some (.int .u64 s1) := cell_ext hx1 (by go_simp)
  have pl0 := cell_lt p0
  have pl3 := cell_lt p3
  replace hx1 := hid_mk (show Ext w w1 from Ext.trans _ _ _ (by (repeat (first | exact Ext.refl _ | apply Ext.drew_left | apply Ext.drew | apply Ext.alloc))) hx1)
  by_cases hz : frmChk ⟨o, peer, o, li, nu, 0, [fstPrt cnt s0 s1]⟩ = 0
  · obtain ⟨sv, rfl, hs1⟩ := h1 hz
    have HS1 := hid_mk hs1
    obtain ⟨a1, c1, rfl, -, -, -⟩ := hs1
    have HZ := hid_mk hz
    clear h1 h2 hz
    go_wp2_with fail
    refine (rFirst_any peer o li nu cnt s0 s1 _).mono ?_
    rintro e w2 ⟨h1, -, hx2⟩
    obtain ⟨sv, rfl, hs2⟩ := h1 HZ.out
    clear h1
    have HS2 := hid_mk hs2
    obtain ⟨a2, c2, rfl, -, -, -⟩ := hs2
    replace HS1 := hid_mk (HS1.out.ext (Ext.trans _ _ _ (by (repeat (first | exact Ext.refl _ | apply Ext.drew_left | apply Ext.drew | apply Ext.alloc))) hx2))
    have f0 : w2.cell? ⟨w1.heap.size, 0, none⟩ = some (.int .i64 o) := cell_ext hx2 (by go_simp)
    have f1 : w2.cell? ⟨w1.heap.size, 1, none⟩ = some (.int .i64 peer) := cell_ext hx2 (by go_simp)
    have f2 : w2.cell? ⟨w1.heap.size, 2, none⟩ = some (.int .i64 o) := cell_ext hx2 (by go_simp)
    have f3 : w2.cell? ⟨w1.heap.size, 3, none⟩ = some (.int .i64 li) := cell_ext hx2 (by go_simp)
    have f4 : w2.cell? ⟨w1.heap.size, 4, none⟩ = some (.int .i64 nu) := cell_ext hx2 (by go_simp)
    have f5 : w2.cell? ⟨w1.heap.size, 5, none⟩ = some (.int .i64 0) := cell_ext hx2 (by go_simp)
    have f6 : w2.cell? ⟨w1.heap.size, 6, none⟩ = some (.slice a1 1 c1) := cell_ext hx2 (by go_simp)
    have fl := cell_lt f0
    clear p0 p1 p2 p3 p4 p5
    replace hx2 := hid_mk (show Ext w w2 from Ext.trans _ _ _ (hx1.out.alloc _) hx2)
    go_wp2_with fail
    refine (rSame_any o peer o li nu 0 o peer o li nu 0 [fstPrt cnt s0 s1] [fstPrt cnt s0 s1] _ _ _ (HS1.out.ext (by (repeat (first | exact Ext.refl _ | apply Ext.drew_left | apply Ext.drew | apply Ext.alloc)))) (HS2.out.ext (by (repeat (first | exact Ext.refl _ | apply Ext.drew_left | apply Ext.drew | apply Ext.alloc))))).mono ?_
    rintro e w3 ⟨rfl, hx3⟩
    rw [sameF_eq, sameP_eq rfl]
    replace HS1 := hid_mk (HS1.out.ext (Ext.trans _ _ _ (by (repeat (first | exact Ext.refl _ | apply Ext.drew_left | apply Ext.drew | apply Ext.alloc))) hx3))
    have g0 : w3.cell? ⟨w1.heap.size, 0, none⟩ = some (.int .i64 o) := cell_ext hx3 (by go_simp)
    have g1 : w3.cell? ⟨w1.heap.size, 1, none⟩ = some (.int .i64 peer) := cell_ext hx3 (by go_simp)
    have g2 : w3.cell? ⟨w1.heap.size, 2, none⟩ = some (.int .i64 o) := cell_ext hx3 (by go_simp)
    have g3 : w3.cell? ⟨w1.heap.size, 3, none⟩ = some (.int .i64 li) := cell_ext hx3 (by go_simp)
    have g4 : w3.cell? ⟨w1.heap.size, 4, none⟩ = some (.int .i64 nu) := cell_ext hx3 (by go_simp)
    have g5 : w3.cell? ⟨w1.heap.size, 5, none⟩ = some (.int .i64 0) := cell_ext hx3 (by go_simp)
    have g6 : w3.cell? ⟨w1.heap.size, 6, none⟩ = some (.slice a1 1 c1) := cell_ext hx3 (by go_simp)
    have gl := cell_lt g0
    clear f0 f1 f2 f3 f4 f5 f6
    replace hx3 := hid_mk (show Ext w w3 from Ext.trans _ _ _ (hx2.out.alloc _) hx3)
    go_wp2_with fail
    refine (fCheck_any o peer o li nu 0 [fstPrt cnt s0 s1] _ _ (HS1.out.ext (by (repeat (first | exact Ext.refl _ | apply Ext.drew_left | apply Ext.drew | apply Ext.alloc))))).mono ?_
    rintro e w4 ⟨rfl, hx4⟩
    rw [HZ.out]
    replace HS1 := hid_mk (HS1.out.ext (Ext.trans _ _ _ (by (repeat (first | exact Ext.refl _ | apply Ext.drew_left | apply Ext.drew | apply Ext.alloc))) hx4))
    replace g0 := cell_ext hx4 g0
    replace g1 := cell_ext hx4 g1
    replace g2 := cell_ext hx4 g2
    replace g3 := cell_ext hx4 g3
    replace g4 := cell_ext hx4 g4
    replace g5 := cell_ext hx4 g5
    replace g6 := cell_ext hx4 g6
    replace hx4 := hid_mk (show Ext w w4 from Ext.trans _ _ _ hx3.out hx4)
    go_wp2_with fail
    refine (fClosing_any o peer o li nu 0 [fstPrt cnt s0 s1] _ _ HS1.out).mono ?_
    rintro e w5 ⟨rfl, hx5⟩
    replace HS1 := hid_mk (HS1.out.ext hx5)
    replace g0 := cell_ext hx5 g0
    replace g1 := cell_ext hx5 g1
    replace g2 := cell_ext hx5 g2
    replace g3 := cell_ext hx5 g3
    replace g4 := cell_ext hx5 g4
    replace g5 := cell_ext hx5 g5
    replace g6 := cell_ext hx5 g6
    replace hx5 := hid_mk (show Ext w w5 from Ext.trans _ _ _ hx4.out hx5)
    go_wp2_with fail
    refine (Entries_any o peer o li nu 0 [fstPrt cnt s0 s1] _ _ HS1.out).mono ?_
    rintro e w6 ⟨rfl, hx6⟩
    have HN : entsNum [fstPrt cnt s0 s1] = 0 := by simp [entsNum, fstPrt, IntKind.wrap_i64]
    rw [HN]
    clear g0 g1 g2 g3 g4 g5 g6
    replace hx6 := hid_mk (show Ext w w6 from Ext.trans _ _ _ hx5.out hx6)
    go_wp2
    go_ret
    exact ⟨ret_bool (by simp), hx6.out⟩
  · have HE := hid_mk (h2 hz)
    obtain rfl := HE.out
    have HZ := hid_mk hz
    have hzb : (frmChk ⟨o, peer, o, li, nu, 0, [fstPrt cnt s0 s1]⟩ != 0) = true := by simpa using hz
    clear h1 h2 hz HE
    go_wp2_with fail
    refine (rFirst_any peer o li nu cnt s0 s1 _).mono ?_
    rintro e w2 ⟨-, h2, hx2⟩
    obtain rfl := h2 HZ.out
    clear h2
    have f0 : w2.cell? ⟨w1.heap.size, 0, none⟩ = some (.int .i64 0) := cell_ext hx2 (by go_simp)
    have f1 : w2.cell? ⟨w1.heap.size, 1, none⟩ = some (.int .i64 0) := cell_ext hx2 (by go_simp)
    have f2 : w2.cell? ⟨w1.heap.size, 2, none⟩ = some (.int .i64 0) := cell_ext hx2 (by go_simp)
    have f3 : w2.cell? ⟨w1.heap.size, 3, none⟩ = some (.int .i64 0) := cell_ext hx2 (by go_simp)
    have f4 : w2.cell? ⟨w1.heap.size, 4, none⟩ = some (.int .i64 0) := cell_ext hx2 (by go_simp)
    have f5 : w2.cell? ⟨w1.heap.size, 5, none⟩ = some (.int .i64 0) := cell_ext hx2 (by go_simp)
    have f6 : w2.cell? ⟨w1.heap.size, 6, none⟩ = some (.slice none 0 0) := cell_ext hx2 (by go_simp)
    have fl := cell_lt f0
    clear p0 p1 p2 p3 p4 p5
    replace hx2 := hid_mk (show Ext w w2 from Ext.trans _ _ _ (hx1.out.alloc _) hx2)
    generalize frmChk ⟨o, peer, o, li, nu, 0, [fstPrt cnt s0 s1]⟩ = r at *
    go_wp2_with fail
    refine (rSame_any 0 0 0 0 0 0 0 0 0 0 0 0 [] [] _ _ _ (prtSl_nil _) (prtSl_nil _)).mono ?_
    rintro e w3 ⟨rfl, hx3⟩
    rw [sameF_eq, sameP_eq rfl]
    replace hx3 := hid_mk (show Ext w w3 from Ext.trans _ _ _ (hx2.out.alloc _) hx3)
    go_wp2
    go_ret
    exact ⟨ret_bool (by simp), hx3.out⟩

theorem own : ownKnob Try.prog.godebug = none := by kernel_rfl
theorem cellsName : Try.prog.cellsOf 23 = 3 := by kernel_rfl
theorem cellsTally : Try.prog.cellsOf 38 = 3 := by kernel_rfl
theorem cellsSum : Try.prog.cellsOf 36 = 2 := by kernel_rfl
theorem cellsInt : Try.prog.cellsOf 3 = 1 := by kernel_rfl

theorem open_name {H : Type} {enc : TypeId × Value → H} {W : World} {base : Nat} {v : Value} {d : DataW H} {p : List MemPlace} (hval : Value.okWide Try.prog W .any base 23 v)
    (h : DataW.Trod enc Try.prog W 0 (fun _ => true) true 23 v d p) : ∃ a b c : Int, v = .agg #[.int .i64 a, .int .i64 b, .int .i64 c] := by
  obtain ⟨c0, c1, c2, y0, y1, y2, m, rfl, rfl, rfl, hy0, hy1, hy2⟩ := open_agg3 Try.underlying23 (by kernel_rfl) cellsName hval h
  obtain ⟨a, e0, rfl, wa⟩ := DataW.trod_int Try.underlying3 hy0
  obtain ⟨b, e1, rfl, wb⟩ := DataW.trod_int Try.underlying3 hy1
  obtain ⟨c, e2, rfl, wc⟩ := DataW.trod_int Try.underlying3 hy2
  simp at e0 e1 e2
  subst e0 e1 e2
  exact ⟨a, b, c, rfl⟩

theorem open_tally {H : Type} {enc : TypeId × Value → H} {W : World} {base : Nat} {v : Value} {d : DataW H} {p : List MemPlace} (hval : Value.okWide Try.prog W .any base 38 v)
    (h : DataW.Trod enc Try.prog W 0 (fun _ => true) true 38 v d p) : ∃ a b c : Int, v = .agg #[.int .i64 a, .int .u64 b, .int .u64 c] := by
  obtain ⟨cs, rfl, hsz⟩ := okWide_struct Try.underlying38 hval
  obtain ⟨c0, c1, c2, rfl⟩ := array3 (hsz.trans cellsTally)
  obtain ⟨fuel, hf⟩ := h
  obtain ⟨y0, y1, n, hx, _, h0, h1⟩ := trod_struct2 Try.underlying38 hf
  simp only [Value.cells, cellsInt, cellsSum, List.drop_zero, List.drop_succ_cons, List.take_succ_cons, List.take_zero] at h0 h1
  obtain ⟨a, e0, -, -⟩ := DataW.trod_int Try.underlying3 h0
  obtain ⟨xs, m, -, -, -, hl, hxs⟩ := DataW.trod_array Try.underlying36 h1
  have k0 := hxs 0 (by omega)
  have k1 := hxs 1 (by omega)
  simp only [cells64, Nat.zero_mul, Nat.one_mul, List.drop_zero, List.drop_succ_cons, List.take_succ_cons, List.take_zero] at k0 k1
  obtain ⟨z0, z1, rfl⟩ : ∃ z0 z1, xs = [z0, z1] := by
    match xs, hl with
    | [z0, z1], _ => exact ⟨z0, z1, rfl⟩
  obtain ⟨b, e1, -, -⟩ := DataW.trod_int Try.underlying34 (x := z0) k0
  obtain ⟨c, e2, -, -⟩ := DataW.trod_int Try.underlying34 (x := z1) k1
  simp at e0 e1 e2
  subst e0 e1 e2
  exact ⟨a, b, c, rfl⟩

theorem frameFirst_lifted (os : Os) (started : os.Started) (H : Type) (enc : TypeId × Value → H) :
    ReturnsInHanded {} Try.checked os 10 .any (Rows.frameFirstSpec.pre6 enc Try.prog Try.f10 Rows.frameFirstRow.domain false) (Rows.frameFirstSpec.post enc Try.prog Try.f10 false true false false) := by
  refine law_lift (C := Try.checked) (tb := 4) own started (by kernel_rfl) Try.func10
    (ChangeSpec.witness6 (enc := enc) (C := Try.checked) false ⟨#[], #[.int .i64 0, .agg #[.int .i64 0, .int .i64 0, .int .i64 0], .agg #[.int .i64 0, .int .u64 0, .int .u64 0]], []⟩ 8 (by kernel_rfl) (by kernel_rfl) (by kernel_rfl) (by kernel_rfl))
    rfl (fun ds h => ?_) (by rfl) Try.underlying4 (by kernel_rfl) ?_ ?_
  · match ds, h with
    | [_, _, _], _ => rfl
  · intro t ht
    have e : t = 3 ∨ t = 23 ∨ t = 38 := by
      have : Try.f10.params.toList = [3, 23, 38] := by rfl
      rw [this] at ht; simpa using ht
    rcases e with rfl | rfl | rfl
    · exact ⟨by kernel_rfl, of_decide_eq_true (by kernel_rfl)⟩
    · exact ⟨by kernel_rfl, of_decide_eq_true (by kernel_rfl)⟩
    · exact ⟨by kernel_rfl, of_decide_eq_true (by kernel_rfl)⟩
  · intro W base args ds ps hval hA _
    have hp : Try.f10.params = #[3, 23, 38] := by rfl
    rw [hp] at hA hval
    obtain ⟨v0, v1, v2, d0, d1, d2, p0, p1, p2, rfl, rfl, rfl, h0, h1, h2⟩ := trodAll_three hA
    obtain ⟨a, b, c, rfl⟩ := open_name (hval 1 23 v1 rfl rfl) h1
    obtain ⟨x, y, z, rfl⟩ := open_tally (hval 2 38 v2 rfl rfl) h2
    obtain ⟨n, rfl⟩ := okWide_int Try.underlying3 (hval 0 3 v0 rfl rfl)
    exact frameFirst_walk n a b c x y z W

theorem frameFirst_over : Rows.frameFirstRow.holds Try.pinned (OpenSpec.ofChange Rows.frameFirstSpec) :=
  OpenClaim.holds_of_wide 10 Try.f10 rfl rfl rfl rfl rfl rfl rfl ⟨rfl, rfl, rfl, rfl, rfl⟩ rfl rfl rfl rfl rfl (by kernel_rfl) Try.func10 (by kernel_rfl)
    (of_decide_eq_true (by kernel_rfl)) (by unfold Func.isWrapper; first | (rw [if_pos (by decide +kernel)]; kernel_rfl) | (rw [if_neg (by decide +kernel)]; exact ⟨rfl, rfl⟩))
    (fun os started H enc _ => frameFirst_lifted os started H enc)

theorem frameFirst_holds : Rows.FrameFirstSaid := frameFirst_over
#print axioms frameFirst_holds
end Go.Proofs.Ytgglbohcnlcagaa
