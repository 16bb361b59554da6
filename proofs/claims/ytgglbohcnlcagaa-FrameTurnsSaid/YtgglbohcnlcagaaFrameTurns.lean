/- FrameTurns: whatever node, name and tally are handed in, the law returns true, and the arguments read afterwards as before. No condition. -/
import Derived.Test.YtgglbohcnlcagaaRows
import Derived.Test.YtgglbohcnlcagaaFJ
import Derived.Test.YtgglbohcnlcagaaFrameFirst
namespace Go.Proofs.Ytgglbohcnlcagaa
open Go.RowKit Go.ChangeShapes Go.WideShapes Go.ChangeAt Go.Joins
set_option maxHeartbeats 4000000
set_option maxRecDepth 100000
set_option linter.unusedSimpArgs false
set_option linter.unusedVariables false

/-- The one part of all answers lies in that block. -/
def ItAt (w : World) (S : Nat) : Prop := PrtAt w S 0 (.slice none 0 0) itPart
theorem frameTurns_walk (peer o li nu cnt s0 s1 : Int) (w : World) :
    Calls Try.prog 13 #[.int .i64 peer, .agg #[.int .i64 o, .int .i64 li, .int .i64 nu], .agg #[.int .i64 cnt, .int .u64 s0, .int .u64 s1]] w fun e w' => e = .returned (.bool true) ∧ Ext w w' := by
  go_enter Try.func13, Try.ntmps13
  go_wp2_with fail
  refine (fFirst_any peer o li nu cnt s0 s1 _).mono ?_
  rintro e w1 ⟨h1, h2, hx1⟩
  have p0 : w1.cell? ⟨w.heap.size, 0, none⟩ = some (.int .i64 o) := cell_ext hx1 (by go_simp)
  have p1 : w1.cell? ⟨w.heap.size, 1, none⟩ = some (.int .i64 li) := cell_ext hx1 (by go_simp)
  have p2 : w1.cell? ⟨w.heap.size, 2, none⟩ = some (.int .i64 nu) := cell_ext hx1 (by go_simp)
  have p3 : w1.cell? ⟨w.heap.size + 1, 0, none⟩ = some (.int .i64 cnt) := cell_ext hx1 (by go_simp)
  have p4 : w1.cell? ⟨w.heap.size + 1, 1, none⟩ = some (.int .u64 s0) := cell_ext hx1 (by go_simp)
  have p5 : w1.cell? ⟨w.heap.size + 1, 2, none⟩ = some (.int .u64 s1) := cell_ext hx1 (by go_simp)
  have pl0 := cell_lt p0
  have pl3 := cell_lt p3
  replace hx1 := hid_mk (show Ext w w1 from Ext.trans _ _ _ (by (repeat (first | exact Ext.refl _ | apply Ext.drew_left | apply Ext.drew | apply Ext.alloc))) hx1)
  by_cases hz : frmChk ⟨o, peer, o, li, nu, 0, [fstPrt cnt s0 s1]⟩ = 0
  · obtain ⟨sv, rfl, hs1⟩ := h1 hz
    have HS1 := hid_mk hs1
    obtain ⟨a1, c1, rfl, -, -, -⟩ := hs1
    have HZ := hid_mk hz
    clear h1 h2 hz
    go_wp2_with fail
    refine (rFirst_any peer o li nu cnt s0 s1 _).mono ?_
    rintro e w2 ⟨h1, -, hx2⟩
    obtain ⟨sv, rfl, hs2⟩ := h1 HZ.out
    clear h1
    obtain ⟨a2, c2, rfl, -, -, -⟩ := hs2
    replace HS1 := hid_mk (HS1.out.ext (Ext.trans _ _ _ (by (repeat (first | exact Ext.refl _ | apply Ext.drew_left | apply Ext.drew | apply Ext.alloc))) hx2))
    have HF : FrmAt w2 w1.heap.size o peer o li nu 0 (.slice a1 1 c1) := FrmAt.ext (w := w1.alloc _) ⟨by go_simp, by go_simp, by go_simp, by go_simp, by go_simp, by go_simp, by go_simp, by go_simp, by go_simp, by go_simp, by go_simp, by go_simp, by go_simp, by go_simp⟩ hx2
    have p0' := cell_ext (Ext.trans _ _ _ ((Ext.refl _).alloc _) hx2) p0
    have p1' := cell_ext (Ext.trans _ _ _ ((Ext.refl _).alloc _) hx2) p1
    have p2' := cell_ext (Ext.trans _ _ _ ((Ext.refl _).alloc _) hx2) p2
    clear p0 p1 p2 p3 p4 p5
    replace hx2 := hid_mk (show Ext w w2 from Ext.trans _ _ _ (hx1.out.alloc _) hx2)
    go_wp2
    have hw12 := cell_lt HF.c0
    go_loopw [12] (fun tn wr => ∃ (k : Nat) (f t : Int) (l : List Prt) (sv : Value), 1 ≤ k ∧ k ≤ 64 ∧ tn = .int .i64 k ∧ FrmAt wr w1.heap.size f t o li nu ((k : Int) - 1) sv ∧ PrtSl wr sv l ∧ frmChk ⟨f, t, o, li, nu, (k : Int) - 1, l⟩ = 0 ∧
      ItAt wr (w2.heap.size + 1) ∧ wr.cell? ⟨w.heap.size, 0, none⟩ = some (.int .i64 o) ∧ wr.cell? ⟨w.heap.size, 1, none⟩ = some (.int .i64 li) ∧ wr.cell? ⟨w.heap.size, 2, none⟩ = some (.int .i64 nu) ∧ Ext w wr) (fun tn _ => 64 - (intOf tn).toNat)
    case atStart =>
      refine ⟨1, o, peer, _, _, by omega, by omega, rfl, HF.ext (((Ext.refl _).alloc _).alloc _), HS1.out.ext (((Ext.refl _).alloc _).alloc _), HZ.out, ?_, ?_, ?_, ?_, (hx2.out.alloc _).alloc _⟩
      · exact ⟨by simp only [itPart]; go_simp, by simp only [itPart]; go_simp, by simp only [itPart]; go_simp, by simp only [itPart]; go_simp, by simp only [itPart]; go_simp, by simp only [itPart]; go_simp, by simp only [itPart]; go_simp, by go_simp, entSl_nil _⟩
      · exact cell_ext (((Ext.refl _).alloc _).alloc _) p0'
      · exact cell_ext (((Ext.refl _).alloc _).alloc _) p1'
      · exact cell_ext (((Ext.refl _).alloc _).alloc _) p2'
    case round =>
      clear p0' p1' p2' HF
      obtain ⟨k, f, t, l, sv, hk1, hk2, rfl, hF, hS, hC, hI, p0, p1, p2, hx⟩ := hrel
      have HFh := hid_mk hF
      have HC := hid_mk hC
      have HI := hid_mk hI
      have HX := hid_mk hx
      have HS := hid_mk hS
      obtain ⟨a3, c3, rfl, -, -, -⟩ := hS
      have hszF := cell_lt hF.c0
      have hszN := cell_lt p0
      have hszI := cell_lt hI.c0
      have hneF : w.heap.size ≠ w1.heap.size := by omega
      have HNX := hid_mk (frmChk_next hC)
      have hke : (k : Int) - 1 + 1 = k := by omega
      rw [hke] at HNX
      obtain ⟨f0, f1, f2, f3, f4, f5, f6, -, -, -, -, -, -, -⟩ := hF
      clear hC hI hx
      by_cases hlt : k ≤ 63
      · have hN0 : frmChk ⟨t, f, o, li, nu, (k : Int), [itPart]⟩ = 0 := by rw [HNX.out, if_pos (by omega)]
        have HN0 := hid_mk hN0
        clear hN0 hke
        go_wp2_with fail
        refine (fAnswer_any f t o li nu ((k : Int) - 1) l [itPart] _ _ _ HS.out (prtSl_one HI.out (Nat.le_refl _))).mono ?_
        rintro e w3 ⟨-, -, h3, hx3⟩
        rw [show (k : Int) - 1 + 1 = k by omega] at h3
        obtain ⟨sv', rfl, ho⟩ := h3 HC.out HN0.out
        have HO := hid_mk ho
        obtain ⟨a4, c4, rfl, -, -, -⟩ := ho
        clear h3
        have HX3 := hid_mk (Ext.trans _ _ _ HX.out hx3)
        have HF3 := hid_mk (HFh.out.ext hx3)
        have HI3 := hid_mk (PrtAt.ext HI.out hx3)
        replace p0 := cell_ext hx3 p0
        replace p1 := cell_ext hx3 p1
        replace p2 := cell_ext hx3 p2
        have hlF := Nat.lt_of_lt_of_le hszF hx3.below.size
        have hlN := cell_lt p0
        have g0 := HF3.out.c0
        have g1 := HF3.out.c1
        have hwl := hid_mk hx3.below.size
        clear f0 f1 f2 f3 f4 f5 f6 hx3 hszF hszN hszI
        go_wp2_with fail
        refine (fCheck_any t f o li nu (k : Int) [itPart] _ _ (HO.out.sl.ext (by (repeat (first | exact Ext.refl _ | apply Ext.drew_left | apply Ext.drew | apply Ext.alloc))))).mono ?_
        rintro e w5 ⟨rfl, hx5⟩
        rw [HN0.out]
        have HO5 := hid_mk (HO.out.ext (Ext.trans _ _ _ ((Ext.refl _).alloc _) hx5))
        have n0 : w5.cell? ⟨w3.heap.size, 0, none⟩ = some (.int .i64 t) := cell_ext hx5 (by go_simp)
        have n1 : w5.cell? ⟨w3.heap.size, 1, none⟩ = some (.int .i64 f) := cell_ext hx5 (by go_simp)
        have n2 : w5.cell? ⟨w3.heap.size, 2, none⟩ = some (.int .i64 o) := cell_ext hx5 (by go_simp)
        have n3 : w5.cell? ⟨w3.heap.size, 3, none⟩ = some (.int .i64 li) := cell_ext hx5 (by go_simp)
        have n4 : w5.cell? ⟨w3.heap.size, 4, none⟩ = some (.int .i64 nu) := cell_ext hx5 (by go_simp)
        have n5 : w5.cell? ⟨w3.heap.size, 5, none⟩ = some (.int .i64 k) := cell_ext hx5 (by go_simp)
        have n6 : w5.cell? ⟨w3.heap.size, 6, none⟩ = some (.slice a4 1 c4) := cell_ext hx5 (by go_simp)
        have HX5 := hid_mk (Ext.trans _ _ _ (HX3.out.alloc _) hx5)
        have HT5 := hid_mk (show Ext w3 w5 from Ext.trans _ _ _ ((Ext.refl _).alloc _) hx5)
        have p0h := hid_mk p0
        have p1h := hid_mk p1
        have p2h := hid_mk p2
        clear hx5 g0 g1 p0 p1 p2
        go_wp2_with fail
        refine (fClosing_any t f o li nu (k : Int) [itPart] _ _ HO5.out.sl).mono ?_
        rintro e w6 ⟨rfl, hx6⟩
        replace n0 := cell_ext hx6 n0
        replace n1 := cell_ext hx6 n1
        replace n2 := cell_ext hx6 n2
        replace n3 := cell_ext hx6 n3
        replace n4 := cell_ext hx6 n4
        replace n5 := cell_ext hx6 n5
        replace n6 := cell_ext hx6 n6
        have HO6 := hid_mk (HO5.out.ext hx6)
        have HX6 := hid_mk (Ext.trans _ _ _ HX5.out hx6)
        have HT6 := hid_mk (Ext.trans _ _ _ HT5.out hx6)
        have HF6 := hid_mk (HF3.out.ext HT6.out)
        obtain ⟨f0, f1, f2, f3, f4, f5, f6, q0, q1, q2, q3, q4, q5, q6⟩ := HF6.out
        have hF6 := cell_lt f0
        clear hx6
        go_wp2
        go_roundw
        case rel =>
          have hFB : w1.heap.size < w3.heap.size := hlF
          have hFr : w1.heap.size < wr.heap.size := cell_lt HFh.out.c0
          have hoff : EntOff w1.heap.size (.slice none 0 0) := fun b o n c e hn => by cases e
          have hne : w2.heap.size + 1 ≠ w1.heap.size := by omega
          have p0 := cell_ext HT6.out p0h.out
          have p1 := cell_ext HT6.out p1h.out
          have p2 := cell_ext HT6.out p2h.out
          have ek : (((k + 1 : Nat) : Int) - 1) = (k : Int) := by omega
          refine ⟨k + 1, t, f, [itPart], .slice a4 1 c4, by omega, by omega, by go_num, ?_, ?_, ?_, ?_, ?_, ?_, ?_, ?_⟩
          · rw [ek]
            exact ⟨by go_simp, by go_simp, by go_simp, by go_simp, by go_simp, by go_simp, by go_simp, by go_simp, by go_simp, by go_simp, by go_simp, by go_simp, by go_simp, by go_simp⟩
          · exact (((((((HO6.out.set hFr).set hFr).set hFr).set hFr).set hFr).set hFr).set hFr).sl
          · rw [ek]; exact HN0.out
          · exact (((((((PrtAt.ext HI3.out HT6.out).setB hne hoff).setB hne hoff).setB hne hoff).setB hne hoff).setB hne hoff).setB hne hoff).setB hne hoff
          · simp only [cell_set_ne hneF]; exact p0
          · simp only [cell_set_ne hneF]; exact p1
          · simp only [cell_set_ne hneF]; exact p2
          · iterate 7 (with_reducible refine Ext.setD ?_ (by omega))
            exact HX6.out
        case measure => simp [intOf]; omega
      · have e : k = 64 := by omega
        subst e
        have hN0 : frmChk ⟨t, f, o, li, nu, 64, [itPart]⟩ = 112 := by
          have h := HNX.out
          rw [if_neg (by omega)] at h
          exact h
        have HN0 := hid_mk hN0
        clear hN0 hke
        go_wp2_with fail
        refine (fAnswer_any f t o li nu 63 l [itPart] _ _ _ HS.out (prtSl_one HI.out (Nat.le_refl _))).mono ?_
        rintro e w3 ⟨-, h3, -, hx3⟩
        obtain rfl := h3 HC.out (by rw [show (63 : Int) + 1 = 64 from rfl, HN0.out]; decide)
        rw [show (63 : Int) + 1 = 64 from rfl, HN0.out]
        have HX3 := hid_mk (Ext.trans _ _ _ HX.out hx3)
        clear h3 hx3 f0 f1 f2 f3 f4 f5 f6
        go_wp2
        go_ret
        exact ⟨ret_bool (by simp), HX3.out.alloc _⟩
  · obtain rfl := h2 hz
    have HZ := hid_mk hz
    have hzb : (frmChk ⟨o, peer, o, li, nu, 0, [fstPrt cnt s0 s1]⟩ != 0) = true := by simpa using hz
    clear h1 h2 hz
    go_wp2_with fail
    refine (rFirst_any peer o li nu cnt s0 s1 _).mono ?_
    rintro e w2 ⟨-, h2, hx2⟩
    obtain rfl := h2 HZ.out
    clear h2 p0 p1 p2 p3 p4 p5
    replace hx2 := hid_mk (show Ext w w2 from Ext.trans _ _ _ (hx1.out.alloc _) hx2)
    generalize frmChk ⟨o, peer, o, li, nu, 0, [fstPrt cnt s0 s1]⟩ = r at *
    go_wp2
    go_ret
    exact ⟨ret_bool (by simp), hx2.out.alloc _⟩
theorem frameTurns_lifted (os : Os) (started : os.Started) (H : Type) (enc : TypeId × Value → H) :
    ReturnsInHanded {} Try.checked os 13 .any (Rows.frameTurnsSpec.pre6 enc Try.prog Try.f13 Rows.frameTurnsRow.domain false) (Rows.frameTurnsSpec.post enc Try.prog Try.f13 false true false false) := by
  refine law_lift (C := Try.checked) (tb := 4) own started (by kernel_rfl) Try.func13
    (ChangeSpec.witness6 (enc := enc) (C := Try.checked) false ⟨#[], #[.int .i64 0, .agg #[.int .i64 0, .int .i64 0, .int .i64 0], .agg #[.int .i64 0, .int .u64 0, .int .u64 0]], []⟩ 8 (by kernel_rfl) (by kernel_rfl) (by kernel_rfl) (by kernel_rfl))
    rfl (fun ds h => ?_) (by rfl) Try.underlying4 (by kernel_rfl) ?_ ?_
  · match ds, h with
    | [_, _, _], _ => rfl
  · intro t ht
    have e : t = 3 ∨ t = 23 ∨ t = 38 := by
      have : Try.f13.params.toList = [3, 23, 38] := by rfl
      rw [this] at ht; simpa using ht
    rcases e with rfl | rfl | rfl
    · exact ⟨by kernel_rfl, of_decide_eq_true (by kernel_rfl)⟩
    · exact ⟨by kernel_rfl, of_decide_eq_true (by kernel_rfl)⟩
    · exact ⟨by kernel_rfl, of_decide_eq_true (by kernel_rfl)⟩
  · intro W base args ds ps hval hA _
    have hp : Try.f13.params = #[3, 23, 38] := by rfl
    rw [hp] at hA hval
    obtain ⟨v0, v1, v2, d0, d1, d2, p0, p1, p2, rfl, rfl, rfl, h0, h1, h2⟩ := trodAll_three hA
    obtain ⟨a, b, c, rfl⟩ := open_name (hval 1 23 v1 rfl rfl) h1
    obtain ⟨x, y, z, rfl⟩ := open_tally (hval 2 38 v2 rfl rfl) h2
    obtain ⟨n, rfl⟩ := okWide_int Try.underlying3 (hval 0 3 v0 rfl rfl)
    exact frameTurns_walk n a b c x y z W

theorem frameTurns_over : Rows.frameTurnsRow.holds Try.pinned (OpenSpec.ofChange Rows.frameTurnsSpec) :=
  OpenClaim.holds_of_wide 13 Try.f13 rfl rfl rfl rfl rfl rfl rfl ⟨rfl, rfl, rfl, rfl, rfl⟩ rfl rfl rfl rfl rfl (by kernel_rfl) Try.func13 (by kernel_rfl)
    (of_decide_eq_true (by kernel_rfl)) (by unfold Func.isWrapper; first | (rw [if_pos (by decide +kernel)]; kernel_rfl) | (rw [if_neg (by decide +kernel)]; exact ⟨rfl, rfl⟩))
    (fun os started H enc _ => frameTurns_lifted os started H enc)

theorem frameTurns_holds : Rows.FrameTurnsSaid := frameTurns_over
#print axioms frameTurns_holds
end Go.Proofs.Ytgglbohcnlcagaa
