/- Judging: what the program's Judge says, of any maps. Judging: what the document's Judge says, of any maps. Judging: GhostJudges, walked. -/
import Derived.Test.YtiimoaplhhnklaaDoorMKT
import Derived.Test.YtiimoaplhhnklaaDoorMJF
namespace Go.Proofs.YtiimoaplhhnklaaDoor
open Go.RowKit Go.Lib
set_option maxHeartbeats 4000000
set_option maxRecDepth 100000
set_option linter.unusedSimpArgs false
set_option linter.unusedVariables false
attribute [-go_sem] Builtin.append_

abbrev vdV (k : Int) (r : Rg) : Value := .agg #[.int .i64 k, .string r.lo, .string r.hi, .bool r.op]
def judgeT (t : Option Rg) (rf : Int) : Int × Rg := match t with
  | some r => (2, r)
  | none => if 0 < rf then (3, zRg) else (0, zRg)
def judgeP (a b X Y : List Ent) (br lf rf : Int) : Int × Rg :=
  if gChk [a, b, X, Y] br lf rf ≠ 0 then (0, zRg)
  else if (alikeB X (maxR a b) && alikeB Y (maxR a b)) = true then (1, zRg)
  else judgeT (twinsF br lf 600 b a [⟨⟨#[]⟩, ⟨#[]⟩, true⟩]) rf
theorem ext_set4 {w W W' : World} {g : Nat} {a b c d : Value} (h : Ext w W) (hg : w.heap.size ≤ g) (hx : Ext ((((W.setCell ⟨g, 0, none⟩ a).setCell ⟨g, 1, none⟩ b).setCell ⟨g, 2, none⟩ c).setCell ⟨g, 3, none⟩ d) W') : Ext w W' :=
  Ext.trans _ _ _ (Xl.ext h (L := [g]) (((((Xl.refl W).set (by simp)).set (by simp)).set (by simp)).set (by simp)) (by simp; exact hg)) hx
theorem judge_any {w : World} (a b X Y : List Ent) (av bv xv yv : Value) (br lf wt tr rf : Int) (ha : EntSl w av a) (hb : EntSl w bv b) (hx : EntSl w xv X) (hy : EntSl w yv Y) (hl : LanesAt w) :
    Calls Tryd.prog 14 #[av, bv, xv, yv, cfgV br lf wt tr, .int .i64 rf] w fun e w' => e = .returned (.tuple #[vdV (judgeP a b X Y br lf rf).1 (judgeP a b X Y br lf rf).2, .int .i64 (gChk [a, b, X, Y] br lf rf)]) ∧ Ext w w' := by
  have HS := hid_mk (And.intro ha (And.intro hb (And.intro hx hy)))
  have HL := hid_mk hl
  obtain ⟨g, hg⟩ : ∃ g, gChk [a, b, X, Y] br lf rf = g := ⟨_, rfl⟩
  obtain ⟨J, hJ⟩ : ∃ J, judgeP a b X Y br lf rf = J := ⟨_, rfl⟩
  have HG := hid_mk hg
  have HJ := hid_mk (show (if g ≠ 0 then ((0 : Int), zRg) else if (alikeB X (maxR a b) && alikeB Y (maxR a b)) = true then (1, zRg) else judgeT (twinsF br lf 600 b a [⟨⟨#[]⟩, ⟨#[]⟩, true⟩]) rf) = J by rw [← hJ, judgeP, hg])
  rw [hg, hJ]
  obtain ⟨xa, xc, rfl, -⟩ := ha
  obtain ⟨ya, yc, rfl, -⟩ := hb
  obtain ⟨za, zc, rfl, -⟩ := hx
  obtain ⟨ua, uc, rfl, -⟩ := hy
  clear hl hg hJ
  go_enter Tryd.func14, Tryd.ntmps14
  go_wp2_with fail
  refine gen_callsJ (fun W => VAt w W br lf wt tr ∧ SnSl W (.slice (some ⟨w.heap.size + 1 + 1, 0, none⟩) 4 4) [a, b, X, Y]) ⟨⟨by (repeat (first | exact Ext.refl _ | apply Ext.drew_left | apply Ext.drew | apply Ext.alloc)), by go_simp, by go_simp, by go_simp, by go_simp, ?_⟩, ?_⟩ ?_
  · have h := heap_alloc_new (w.alloc (.cells #[.int .i64 br, .int .i64 lf, .int .i64 wt, .int .i64 tr] 44)) (.cells #[.int .i64 0, .string ⟨#[]⟩, .string ⟨#[]⟩, .bool false] 46)
    rw [World.size_alloc] at h
    refine Eq.trans ?_ h
    exact (Below.heap_alloc _ _ _ (by simp))
  · refine ⟨_, 4, rfl, by simp, by simp, fun _ => ⟨_, 0, rfl, fun i hi => ?_⟩⟩
    have hxx : Ext w (((w.alloc (.cells #[.int .i64 br, .int .i64 lf, .int .i64 wt, .int .i64 tr] 44)).alloc (.cells #[.int .i64 0, .string ⟨#[]⟩, .string ⟨#[]⟩, .bool false] 46)).alloc (.cells #[.slice xa a.length xc, .slice ya b.length yc, .slice za X.length zc, .slice ua Y.length uc] 22)) := by (repeat (first | exact Ext.refl _ | apply Ext.drew_left | apply Ext.drew | apply Ext.alloc))
    match i, hi with
    | 0, _ => exact ⟨.slice xa a.length xc, by go_simp, HS.out.1.ext hxx⟩
    | 1, _ => exact ⟨.slice ya b.length yc, by go_simp, HS.out.2.1.ext hxx⟩
    | 2, _ => exact ⟨.slice za X.length zc, by go_simp, HS.out.2.2.1.ext hxx⟩
    | 3, _ => exact ⟨.slice ua Y.length uc, by go_simp, HS.out.2.2.2.ext hxx⟩
  rintro W1 ⟨hv1, hsn⟩
  have HV1 := hid_mk hv1
  refine (gcheck_any br lf wt tr rf _ _ hsn).mono ?_
  rintro e W2 ⟨rfl, hx2⟩
  rw [HG.out]
  have HV2 := hid_mk (HV1.out.ext hx2)
  clear hv1 hsn hx2 HV1
  by_cases h1 : g = 0
  rotate_left
  · have hbz : (g == 0) = false := by rw [beq_eq_false_iff_ne]; exact h1
    have HJR := hid_mk (show J = (0, zRg) by rw [← HJ.out, if_pos h1])
    have hbv := HV2.out.v
    have v0 : W2.cell? ⟨w.heap.size + 1, 0, none⟩ = some (.int .i64 0) := by simp [World.cell?, hbv]
    have v1 : W2.cell? ⟨w.heap.size + 1, 1, none⟩ = some (.string ⟨#[]⟩) := by simp [World.cell?, hbv]
    have v2 : W2.cell? ⟨w.heap.size + 1, 2, none⟩ = some (.string ⟨#[]⟩) := by simp [World.cell?, hbv]
    have v3 : W2.cell? ⟨w.heap.size + 1, 3, none⟩ = some (.bool false) := by simp [World.cell?, hbv]
    have f0 : W2.frozen? ⟨w.heap.size + 1, 0, none⟩ = false := by simp [World.frozen?, hbv]
    have f1 : W2.frozen? ⟨w.heap.size + 1, 1, none⟩ = false := by simp [World.frozen?, hbv]
    have f2 : W2.frozen? ⟨w.heap.size + 1, 2, none⟩ = false := by simp [World.frozen?, hbv]
    have f3 : W2.frozen? ⟨w.heap.size + 1, 3, none⟩ = false := by simp [World.frozen?, hbv]
    have vl := cell_lt v0
    clear hbv
    go_wp2
    refine bodyPost_ret (v := .tuple #[vdV 0 zRg, .int .i64 g]) (by unfold results; rw [Tryd.results14]; go_simp; first | done | rfl) rfl ⟨by rw [HJR.out], ?_⟩
    exact ext_set4 HV2.out.x (Nat.le_succ _) (by (repeat (first | exact Ext.refl _ | apply Ext.drew_left | apply Ext.drew | apply Ext.alloc)))
  subst h1
  rw [if_neg (by simp)] at HJ
  obtain ⟨hz, hrt, -⟩ := gChk_zero HG.out
  have HM := hid_mk (And.intro (mapOk_held (hz a (by simp))) (mapOk_held (hz b (by simp))))
  have HRT := hid_mk hrt
  have hX := (mapOk_held (hz X (by simp))).n
  have hY := (mapOk_held (hz Y (by simp))).n
  clear hz hrt
  go_wp2_with fail
  refine (mMax_any a b _ _ (HS.out.1.ext HV2.out.x) (HS.out.2.1.ext HV2.out.x) (by have := HM.out.1.n; omega) (by have := HM.out.2.n; omega)).mono ?_
  rintro e W3 ⟨mv, rfl, ho, hx3⟩
  have HV3 := hid_mk (HV2.out.ext hx3)
  have hml : (maxR a b).length ≤ 600 := by
    have := maxR_len a b
    have := HM.out.1.n
    have := HM.out.2.n
    omega
  have HO := hid_mk (ho.sl (by omega))
  obtain ⟨mx, hmx⟩ : ∃ mx, maxR a b = mx := ⟨_, rfl⟩
  rw [hmx] at HO hml HJ ho
  obtain ⟨ma, mc, rfl⟩ := own_form ho
  clear hx3 ho HV2 hmx
  go_wp2_with fail
  refine (alike_any X mx _ _ (HS.out.2.2.1.ext HV3.out.x) HO.out (by omega) (by omega)).mono ?_
  rintro e W4 ⟨rfl, hx4⟩
  have HV4 := hid_mk (HV3.out.ext hx4)
  have HO4 := hid_mk (HO.out.ext hx4)
  obtain ⟨ax, hax⟩ : ∃ ax, alikeB X mx = ax := ⟨_, rfl⟩
  rw [hax] at HJ ⊢
  clear hx4 HV3 HO hax
  cases ax with
  | false =>
    have HJ2 := hid_mk (show judgeT (twinsF br lf 600 b a [⟨⟨#[]⟩, ⟨#[]⟩, true⟩]) rf = J by rw [← HJ.out, if_neg (by simp)])
    have HV5 := hid_mk HV4.out
    have c0 := HV5.out.c0
    have c1 := HV5.out.c1
    have cl := cell_lt c0
    go_wp2_with fail
    refine (twins0_any a b _ _ br lf (HS.out.1.ext HV5.out.x) (HS.out.2.1.ext HV5.out.x) (HL.out.ext HV5.out.x) HM.out.1 HM.out.2 HRT.out).mono ?_
    rintro e W6 ⟨rfl, hx⟩
    have HV6 := hid_mk (HV5.out.ext hx)
    obtain ⟨T, hT⟩ : ∃ T, twinsF br lf 600 b a [⟨⟨#[]⟩, ⟨#[]⟩, true⟩] = T := ⟨_, rfl⟩
    rw [hT] at HJ2 ⊢
    clear hx HV5 c0 c1 cl hT
    cases T with
    | some r =>
      have HJR := hid_mk (show J = (2, r) from HJ2.out.symm)
      simp only [twV, Option.getD_some, Option.isSome_some]
      have hbv := HV6.out.v
      have v0 : W6.cell? ⟨w.heap.size + 1, 0, none⟩ = some (.int .i64 0) := by simp [World.cell?, hbv]
      have v1 : W6.cell? ⟨w.heap.size + 1, 1, none⟩ = some (.string ⟨#[]⟩) := by simp [World.cell?, hbv]
      have v2 : W6.cell? ⟨w.heap.size + 1, 2, none⟩ = some (.string ⟨#[]⟩) := by simp [World.cell?, hbv]
      have v3 : W6.cell? ⟨w.heap.size + 1, 3, none⟩ = some (.bool false) := by simp [World.cell?, hbv]
      have f0 : W6.frozen? ⟨w.heap.size + 1, 0, none⟩ = false := by simp [World.frozen?, hbv]
      have f1 : W6.frozen? ⟨w.heap.size + 1, 1, none⟩ = false := by simp [World.frozen?, hbv]
      have f2 : W6.frozen? ⟨w.heap.size + 1, 2, none⟩ = false := by simp [World.frozen?, hbv]
      have f3 : W6.frozen? ⟨w.heap.size + 1, 3, none⟩ = false := by simp [World.frozen?, hbv]
      have vl := cell_lt v0
      clear hbv
      go_wp2
      refine bodyPost_ret (v := .tuple #[vdV 2 r, .int .i64 0]) (by unfold results; rw [Tryd.results14]; go_simp; first | done | rfl) rfl ⟨by rw [HJR.out], ?_⟩
      exact ext_set4 HV6.out.x (Nat.le_succ _) (by (repeat (first | exact Ext.refl _ | apply Ext.drew_left | apply Ext.drew | apply Ext.alloc)))
    | none =>
      simp only [twV, Option.getD_none, Option.isSome_none]
      by_cases hrf : 0 < rf
      · have HJR := hid_mk (show J = (3, zRg) by rw [← HJ2.out, judgeT, if_pos hrf])
        have hbv := HV6.out.v
        have v0 : W6.cell? ⟨w.heap.size + 1, 0, none⟩ = some (.int .i64 0) := by simp [World.cell?, hbv]
        have v1 : W6.cell? ⟨w.heap.size + 1, 1, none⟩ = some (.string ⟨#[]⟩) := by simp [World.cell?, hbv]
        have v2 : W6.cell? ⟨w.heap.size + 1, 2, none⟩ = some (.string ⟨#[]⟩) := by simp [World.cell?, hbv]
        have v3 : W6.cell? ⟨w.heap.size + 1, 3, none⟩ = some (.bool false) := by simp [World.cell?, hbv]
        have f0 : W6.frozen? ⟨w.heap.size + 1, 0, none⟩ = false := by simp [World.frozen?, hbv]
        have f1 : W6.frozen? ⟨w.heap.size + 1, 1, none⟩ = false := by simp [World.frozen?, hbv]
        have f2 : W6.frozen? ⟨w.heap.size + 1, 2, none⟩ = false := by simp [World.frozen?, hbv]
        have f3 : W6.frozen? ⟨w.heap.size + 1, 3, none⟩ = false := by simp [World.frozen?, hbv]
        have vl := cell_lt v0
        clear hbv
        go_wp2
        refine bodyPost_ret (v := .tuple #[vdV 3 zRg, .int .i64 0]) (by unfold results; rw [Tryd.results14]; go_simp; first | done | rfl) rfl ⟨by rw [HJR.out], ?_⟩
        exact ext_set4 HV6.out.x (Nat.le_succ _) (by (repeat (first | exact Ext.refl _ | apply Ext.drew_left | apply Ext.drew | apply Ext.alloc)))
      · have HJR := hid_mk (show J = (0, zRg) by rw [← HJ2.out, judgeT, if_neg hrf])
        have hbv := HV6.out.v
        have v0 : W6.cell? ⟨w.heap.size + 1, 0, none⟩ = some (.int .i64 0) := by simp [World.cell?, hbv]
        have v1 : W6.cell? ⟨w.heap.size + 1, 1, none⟩ = some (.string ⟨#[]⟩) := by simp [World.cell?, hbv]
        have v2 : W6.cell? ⟨w.heap.size + 1, 2, none⟩ = some (.string ⟨#[]⟩) := by simp [World.cell?, hbv]
        have v3 : W6.cell? ⟨w.heap.size + 1, 3, none⟩ = some (.bool false) := by simp [World.cell?, hbv]
        have f0 : W6.frozen? ⟨w.heap.size + 1, 0, none⟩ = false := by simp [World.frozen?, hbv]
        have f1 : W6.frozen? ⟨w.heap.size + 1, 1, none⟩ = false := by simp [World.frozen?, hbv]
        have f2 : W6.frozen? ⟨w.heap.size + 1, 2, none⟩ = false := by simp [World.frozen?, hbv]
        have f3 : W6.frozen? ⟨w.heap.size + 1, 3, none⟩ = false := by simp [World.frozen?, hbv]
        have vl := cell_lt v0
        clear hbv
        go_wp2
        refine bodyPost_ret (v := .tuple #[vdV 0 zRg, .int .i64 0]) (by unfold results; rw [Tryd.results14]; go_simp; first | done | rfl) rfl ⟨by rw [HJR.out], ?_⟩
        exact ext_set4 HV6.out.x (Nat.le_succ _) (by (repeat (first | exact Ext.refl _ | apply Ext.drew_left | apply Ext.drew | apply Ext.alloc)))
  | true =>
    go_wp2_with fail
    refine (alike_any Y mx _ _ (HS.out.2.2.2.ext HV4.out.x) HO4.out (by omega) (by omega)).mono ?_
    rintro e W5 ⟨rfl, hx5⟩
    have HV5 := hid_mk (HV4.out.ext hx5)
    obtain ⟨ay, hay⟩ : ∃ ay, alikeB Y mx = ay := ⟨_, rfl⟩
    rw [hay] at HJ ⊢
    clear hx5 HV4 HO4 hay
    cases ay with
    | true =>
      have HJR := hid_mk (show J = (1, zRg) by rw [← HJ.out, if_pos (by simp)])
      have hbv := HV5.out.v
      have v0 : W5.cell? ⟨w.heap.size + 1, 0, none⟩ = some (.int .i64 0) := by simp [World.cell?, hbv]
      have v1 : W5.cell? ⟨w.heap.size + 1, 1, none⟩ = some (.string ⟨#[]⟩) := by simp [World.cell?, hbv]
      have v2 : W5.cell? ⟨w.heap.size + 1, 2, none⟩ = some (.string ⟨#[]⟩) := by simp [World.cell?, hbv]
      have v3 : W5.cell? ⟨w.heap.size + 1, 3, none⟩ = some (.bool false) := by simp [World.cell?, hbv]
      have f0 : W5.frozen? ⟨w.heap.size + 1, 0, none⟩ = false := by simp [World.frozen?, hbv]
      have f1 : W5.frozen? ⟨w.heap.size + 1, 1, none⟩ = false := by simp [World.frozen?, hbv]
      have f2 : W5.frozen? ⟨w.heap.size + 1, 2, none⟩ = false := by simp [World.frozen?, hbv]
      have f3 : W5.frozen? ⟨w.heap.size + 1, 3, none⟩ = false := by simp [World.frozen?, hbv]
      have vl := cell_lt v0
      clear hbv
      go_wp2
      refine bodyPost_ret (v := .tuple #[vdV 1 zRg, .int .i64 0]) (by unfold results; rw [Tryd.results14]; go_simp; first | done | rfl) rfl ⟨by rw [HJR.out], ?_⟩
      exact ext_set4 HV5.out.x (Nat.le_succ _) (by (repeat (first | exact Ext.refl _ | apply Ext.drew_left | apply Ext.drew | apply Ext.alloc)))
    | false =>
      have HJ2 := hid_mk (show judgeT (twinsF br lf 600 b a [⟨⟨#[]⟩, ⟨#[]⟩, true⟩]) rf = J by rw [← HJ.out, if_neg (by simp)])
      have c0 := HV5.out.c0
      have c1 := HV5.out.c1
      have cl := cell_lt c0
      go_wp2_with fail
      refine (twins0_any a b _ _ br lf (HS.out.1.ext HV5.out.x) (HS.out.2.1.ext HV5.out.x) (HL.out.ext HV5.out.x) HM.out.1 HM.out.2 HRT.out).mono ?_
      rintro e W6 ⟨rfl, hx⟩
      have HV6 := hid_mk (HV5.out.ext hx)
      obtain ⟨T, hT⟩ : ∃ T, twinsF br lf 600 b a [⟨⟨#[]⟩, ⟨#[]⟩, true⟩] = T := ⟨_, rfl⟩
      rw [hT] at HJ2 ⊢
      clear hx HV5 c0 c1 cl hT
      cases T with
      | some r =>
        have HJR := hid_mk (show J = (2, r) from HJ2.out.symm)
        simp only [twV, Option.getD_some, Option.isSome_some]
        have hbv := HV6.out.v
        have v0 : W6.cell? ⟨w.heap.size + 1, 0, none⟩ = some (.int .i64 0) := by simp [World.cell?, hbv]
        have v1 : W6.cell? ⟨w.heap.size + 1, 1, none⟩ = some (.string ⟨#[]⟩) := by simp [World.cell?, hbv]
        have v2 : W6.cell? ⟨w.heap.size + 1, 2, none⟩ = some (.string ⟨#[]⟩) := by simp [World.cell?, hbv]
        have v3 : W6.cell? ⟨w.heap.size + 1, 3, none⟩ = some (.bool false) := by simp [World.cell?, hbv]
        have f0 : W6.frozen? ⟨w.heap.size + 1, 0, none⟩ = false := by simp [World.frozen?, hbv]
        have f1 : W6.frozen? ⟨w.heap.size + 1, 1, none⟩ = false := by simp [World.frozen?, hbv]
        have f2 : W6.frozen? ⟨w.heap.size + 1, 2, none⟩ = false := by simp [World.frozen?, hbv]
        have f3 : W6.frozen? ⟨w.heap.size + 1, 3, none⟩ = false := by simp [World.frozen?, hbv]
        have vl := cell_lt v0
        clear hbv
        go_wp2
        refine bodyPost_ret (v := .tuple #[vdV 2 r, .int .i64 0]) (by unfold results; rw [Tryd.results14]; go_simp; first | done | rfl) rfl ⟨by rw [HJR.out], ?_⟩
        exact ext_set4 HV6.out.x (Nat.le_succ _) (by (repeat (first | exact Ext.refl _ | apply Ext.drew_left | apply Ext.drew | apply Ext.alloc)))
      | none =>
        simp only [twV, Option.getD_none, Option.isSome_none]
        by_cases hrf : 0 < rf
        · have HJR := hid_mk (show J = (3, zRg) by rw [← HJ2.out, judgeT, if_pos hrf])
          have hbv := HV6.out.v
          have v0 : W6.cell? ⟨w.heap.size + 1, 0, none⟩ = some (.int .i64 0) := by simp [World.cell?, hbv]
          have v1 : W6.cell? ⟨w.heap.size + 1, 1, none⟩ = some (.string ⟨#[]⟩) := by simp [World.cell?, hbv]
          have v2 : W6.cell? ⟨w.heap.size + 1, 2, none⟩ = some (.string ⟨#[]⟩) := by simp [World.cell?, hbv]
          have v3 : W6.cell? ⟨w.heap.size + 1, 3, none⟩ = some (.bool false) := by simp [World.cell?, hbv]
          have f0 : W6.frozen? ⟨w.heap.size + 1, 0, none⟩ = false := by simp [World.frozen?, hbv]
          have f1 : W6.frozen? ⟨w.heap.size + 1, 1, none⟩ = false := by simp [World.frozen?, hbv]
          have f2 : W6.frozen? ⟨w.heap.size + 1, 2, none⟩ = false := by simp [World.frozen?, hbv]
          have f3 : W6.frozen? ⟨w.heap.size + 1, 3, none⟩ = false := by simp [World.frozen?, hbv]
          have vl := cell_lt v0
          clear hbv
          go_wp2
          refine bodyPost_ret (v := .tuple #[vdV 3 zRg, .int .i64 0]) (by unfold results; rw [Tryd.results14]; go_simp; first | done | rfl) rfl ⟨by rw [HJR.out], ?_⟩
          exact ext_set4 HV6.out.x (Nat.le_succ _) (by (repeat (first | exact Ext.refl _ | apply Ext.drew_left | apply Ext.drew | apply Ext.alloc)))
        · have HJR := hid_mk (show J = (0, zRg) by rw [← HJ2.out, judgeT, if_neg hrf])
          have hbv := HV6.out.v
          have v0 : W6.cell? ⟨w.heap.size + 1, 0, none⟩ = some (.int .i64 0) := by simp [World.cell?, hbv]
          have v1 : W6.cell? ⟨w.heap.size + 1, 1, none⟩ = some (.string ⟨#[]⟩) := by simp [World.cell?, hbv]
          have v2 : W6.cell? ⟨w.heap.size + 1, 2, none⟩ = some (.string ⟨#[]⟩) := by simp [World.cell?, hbv]
          have v3 : W6.cell? ⟨w.heap.size + 1, 3, none⟩ = some (.bool false) := by simp [World.cell?, hbv]
          have f0 : W6.frozen? ⟨w.heap.size + 1, 0, none⟩ = false := by simp [World.frozen?, hbv]
          have f1 : W6.frozen? ⟨w.heap.size + 1, 1, none⟩ = false := by simp [World.frozen?, hbv]
          have f2 : W6.frozen? ⟨w.heap.size + 1, 2, none⟩ = false := by simp [World.frozen?, hbv]
          have f3 : W6.frozen? ⟨w.heap.size + 1, 3, none⟩ = false := by simp [World.frozen?, hbv]
          have vl := cell_lt v0
          clear hbv
          go_wp2
          refine bodyPost_ret (v := .tuple #[vdV 0 zRg, .int .i64 0]) (by unfold results; rw [Tryd.results14]; go_simp; first | done | rfl) rfl ⟨by rw [HJR.out], ?_⟩
          exact ext_set4 HV6.out.x (Nat.le_succ _) (by (repeat (first | exact Ext.refl _ | apply Ext.drew_left | apply Ext.drew | apply Ext.alloc)))
end Go.Proofs.YtiimoaplhhnklaaDoor
namespace Go.Proofs.YtiimoaplhhnklaaDoor
open Go.RowKit Go.Lib
set_option maxHeartbeats 4000000
set_option maxRecDepth 100000
set_option linter.unusedSimpArgs false
set_option linter.unusedVariables false
attribute [-go_sem] Builtin.append_

theorem rjudge_gen {w : World} (a b X Y : List Ent) (av bv xv yv : Value) (br lf wt tr rf : Int) (ha : EntSl w av a) (hb : EntSl w bv b) (hx : EntSl w xv X) (hy : EntSl w yv Y) :
    Calls Tryd.prog 15 #[av, bv, xv, yv, cfgV br lf wt tr, .int .i64 rf] w fun e w' => e = .returned (.tuple #[vdV (judgeP a b X Y br lf rf).1 (judgeP a b X Y br lf rf).2, .int .i64 (gChk [a, b, X, Y] br lf rf)]) ∧ Ext w w' := by
  have HS := hid_mk (And.intro ha (And.intro hb (And.intro hx hy)))
  obtain ⟨g, hg⟩ : ∃ g, gChk [a, b, X, Y] br lf rf = g := ⟨_, rfl⟩
  obtain ⟨J, hJ⟩ : ∃ J, judgeP a b X Y br lf rf = J := ⟨_, rfl⟩
  have HG := hid_mk hg
  have HJ := hid_mk (show (if g ≠ 0 then ((0 : Int), zRg) else if (alikeB X (maxR a b) && alikeB Y (maxR a b)) = true then (1, zRg) else judgeT (twinsF br lf 600 b a [⟨⟨#[]⟩, ⟨#[]⟩, true⟩]) rf) = J by rw [← hJ, judgeP, hg])
  rw [hg, hJ]
  obtain ⟨xa, xc, rfl, -⟩ := ha
  obtain ⟨ya, yc, rfl, -⟩ := hb
  obtain ⟨za, zc, rfl, -⟩ := hx
  obtain ⟨ua, uc, rfl, -⟩ := hy
  clear hg hJ
  go_enter Tryd.func15, Tryd.ntmps15
  go_wp2_with fail
  refine gen_callsJ (fun W => NAt w W br lf wt tr) ⟨⟨by (repeat (first | exact Ext.refl _ | apply Ext.drew_left | apply Ext.drew | apply Ext.alloc)), by go_simp, by go_simp, by go_simp, by go_simp, ?_⟩, by go_simp, by go_simp, by go_simp, by go_simp⟩ ?_
  · have h := heap_alloc_new (w.alloc (.cells #[.int .i64 br, .int .i64 lf, .int .i64 wt, .int .i64 tr] 44)) (.cells #[.int .i64 0, .string ⟨#[]⟩, .string ⟨#[]⟩, .bool false] 46)
    rw [World.size_alloc] at h
    refine Eq.trans ?_ h
    exact (Below.heap_alloc _ _ _ (by simp))
  rintro W1 hn1
  have HNW1 := hid_mk hn1
  clear hn1
  obtain ⟨z1, hz1⟩ : ∃ z, heldE a = z := ⟨_, rfl⟩
  have Hz1 := hid_mk hz1
  refine (rfheld_any _ a (HS.out.1.ext HNW1.out.h.x)).mono ?_
  rintro e W2 ⟨rfl, hx⟩
  rw [hz1]
  have HNW2 := hid_mk (HNW1.out.ext hx)
  clear hx hz1
  by_cases h1 : z1 = 0
  rotate_left
  · have hbz : (z1 == 0) = false := by rw [beq_eq_false_iff_ne]; exact h1
    obtain rfl : z1 = g := by rw [← HG.out, gChk_fst, Hz1.out, if_pos h1]
    have HJR := hid_mk (show J = (0, zRg) by rw [← HJ.out, if_pos h1])
    have hb5 := HNW2.out.h.v
    have v0 : W2.cell? ⟨w.heap.size + 1, 0, none⟩ = some (.int .i64 0) := by simp [World.cell?, hb5]
    have v1 : W2.cell? ⟨w.heap.size + 1, 1, none⟩ = some (.string ⟨#[]⟩) := by simp [World.cell?, hb5]
    have v2 : W2.cell? ⟨w.heap.size + 1, 2, none⟩ = some (.string ⟨#[]⟩) := by simp [World.cell?, hb5]
    have v3 : W2.cell? ⟨w.heap.size + 1, 3, none⟩ = some (.bool false) := by simp [World.cell?, hb5]
    have f0 : W2.frozen? ⟨w.heap.size + 1, 0, none⟩ = false := by simp [World.frozen?, hb5]
    have f1 : W2.frozen? ⟨w.heap.size + 1, 1, none⟩ = false := by simp [World.frozen?, hb5]
    have f2 : W2.frozen? ⟨w.heap.size + 1, 2, none⟩ = false := by simp [World.frozen?, hb5]
    have f3 : W2.frozen? ⟨w.heap.size + 1, 3, none⟩ = false := by simp [World.frozen?, hb5]
    have m0 := HNW2.out.n0
    have m1 := HNW2.out.n1
    have m2 := HNW2.out.n2
    have m3 := HNW2.out.n3
    have vl := cell_lt v0
    have nl := cell_lt m0
    clear hb5
    go_wp2
    refine bodyPost_ret (v := .tuple #[vdV 0 zRg, .int .i64 z1]) (by unfold results; rw [Tryd.results15]; go_simp; first | done | rfl) rfl ⟨by rw [HJR.out], ?_⟩
    exact ext_set4 HNW2.out.h.x (Nat.le_succ _) (by (repeat (first | exact Ext.refl _ | apply Ext.drew_left | apply Ext.drew | apply Ext.alloc)))
  subst h1
  go_wp2_with fail
  obtain ⟨z2, hz2⟩ : ∃ z, heldE b = z := ⟨_, rfl⟩
  have Hz2 := hid_mk hz2
  refine (rfheld_any _ b (HS.out.2.1.ext HNW2.out.h.x)).mono ?_
  rintro e W3 ⟨rfl, hx⟩
  rw [hz2]
  have HNW3 := hid_mk (HNW2.out.ext hx)
  clear hx hz2
  by_cases h2 : z2 = 0
  rotate_left
  · have hbz : (z2 == 0) = false := by rw [beq_eq_false_iff_ne]; exact h2
    obtain rfl : z2 = g := by rw [← HG.out, gChk_fst, Hz1.out, if_neg (by simp), gChk_fst, Hz2.out, if_pos h2]
    have HJR := hid_mk (show J = (0, zRg) by rw [← HJ.out, if_pos h2])
    have hb5 := HNW3.out.h.v
    have v0 : W3.cell? ⟨w.heap.size + 1, 0, none⟩ = some (.int .i64 0) := by simp [World.cell?, hb5]
    have v1 : W3.cell? ⟨w.heap.size + 1, 1, none⟩ = some (.string ⟨#[]⟩) := by simp [World.cell?, hb5]
    have v2 : W3.cell? ⟨w.heap.size + 1, 2, none⟩ = some (.string ⟨#[]⟩) := by simp [World.cell?, hb5]
    have v3 : W3.cell? ⟨w.heap.size + 1, 3, none⟩ = some (.bool false) := by simp [World.cell?, hb5]
    have f0 : W3.frozen? ⟨w.heap.size + 1, 0, none⟩ = false := by simp [World.frozen?, hb5]
    have f1 : W3.frozen? ⟨w.heap.size + 1, 1, none⟩ = false := by simp [World.frozen?, hb5]
    have f2 : W3.frozen? ⟨w.heap.size + 1, 2, none⟩ = false := by simp [World.frozen?, hb5]
    have f3 : W3.frozen? ⟨w.heap.size + 1, 3, none⟩ = false := by simp [World.frozen?, hb5]
    have m0 := HNW3.out.n0
    have m1 := HNW3.out.n1
    have m2 := HNW3.out.n2
    have m3 := HNW3.out.n3
    have vl := cell_lt v0
    have nl := cell_lt m0
    clear hb5
    go_wp2
    refine bodyPost_ret (v := .tuple #[vdV 0 zRg, .int .i64 z2]) (by unfold results; rw [Tryd.results15]; go_simp; first | done | rfl) rfl ⟨by rw [HJR.out], ?_⟩
    exact ext_set4 HNW3.out.h.x (Nat.le_succ _) (by (repeat (first | exact Ext.refl _ | apply Ext.drew_left | apply Ext.drew | apply Ext.alloc)))
  subst h2
  go_wp2_with fail
  obtain ⟨z3, hz3⟩ : ∃ z, heldE X = z := ⟨_, rfl⟩
  have Hz3 := hid_mk hz3
  refine (rfheld_any _ X (HS.out.2.2.1.ext HNW3.out.h.x)).mono ?_
  rintro e W4 ⟨rfl, hx⟩
  rw [hz3]
  have HNW4 := hid_mk (HNW3.out.ext hx)
  clear hx hz3
  by_cases h3 : z3 = 0
  rotate_left
  · have hbz : (z3 == 0) = false := by rw [beq_eq_false_iff_ne]; exact h3
    obtain rfl : z3 = g := by rw [← HG.out, gChk_fst, Hz1.out, if_neg (by simp), gChk_fst, Hz2.out, if_neg (by simp), gChk_fst, Hz3.out, if_pos h3]
    have HJR := hid_mk (show J = (0, zRg) by rw [← HJ.out, if_pos h3])
    have hb5 := HNW4.out.h.v
    have v0 : W4.cell? ⟨w.heap.size + 1, 0, none⟩ = some (.int .i64 0) := by simp [World.cell?, hb5]
    have v1 : W4.cell? ⟨w.heap.size + 1, 1, none⟩ = some (.string ⟨#[]⟩) := by simp [World.cell?, hb5]
    have v2 : W4.cell? ⟨w.heap.size + 1, 2, none⟩ = some (.string ⟨#[]⟩) := by simp [World.cell?, hb5]
    have v3 : W4.cell? ⟨w.heap.size + 1, 3, none⟩ = some (.bool false) := by simp [World.cell?, hb5]
    have f0 : W4.frozen? ⟨w.heap.size + 1, 0, none⟩ = false := by simp [World.frozen?, hb5]
    have f1 : W4.frozen? ⟨w.heap.size + 1, 1, none⟩ = false := by simp [World.frozen?, hb5]
    have f2 : W4.frozen? ⟨w.heap.size + 1, 2, none⟩ = false := by simp [World.frozen?, hb5]
    have f3 : W4.frozen? ⟨w.heap.size + 1, 3, none⟩ = false := by simp [World.frozen?, hb5]
    have m0 := HNW4.out.n0
    have m1 := HNW4.out.n1
    have m2 := HNW4.out.n2
    have m3 := HNW4.out.n3
    have vl := cell_lt v0
    have nl := cell_lt m0
    clear hb5
    go_wp2
    refine bodyPost_ret (v := .tuple #[vdV 0 zRg, .int .i64 z3]) (by unfold results; rw [Tryd.results15]; go_simp; first | done | rfl) rfl ⟨by rw [HJR.out], ?_⟩
    exact ext_set4 HNW4.out.h.x (Nat.le_succ _) (by (repeat (first | exact Ext.refl _ | apply Ext.drew_left | apply Ext.drew | apply Ext.alloc)))
  subst h3
  go_wp2_with fail
  obtain ⟨z4, hz4⟩ : ∃ z, heldE Y = z := ⟨_, rfl⟩
  have Hz4 := hid_mk hz4
  refine (rfheld_any _ Y (HS.out.2.2.2.ext HNW4.out.h.x)).mono ?_
  rintro e W5 ⟨rfl, hx⟩
  rw [hz4]
  have HNW5 := hid_mk (HNW4.out.ext hx)
  clear hx hz4
  by_cases h4 : z4 = 0
  rotate_left
  · have hbz : (z4 == 0) = false := by rw [beq_eq_false_iff_ne]; exact h4
    obtain rfl : z4 = g := by rw [← HG.out, gChk_fst, Hz1.out, if_neg (by simp), gChk_fst, Hz2.out, if_neg (by simp), gChk_fst, Hz3.out, if_neg (by simp), gChk_fst, Hz4.out, if_pos h4]
    have HJR := hid_mk (show J = (0, zRg) by rw [← HJ.out, if_pos h4])
    have hb5 := HNW5.out.h.v
    have v0 : W5.cell? ⟨w.heap.size + 1, 0, none⟩ = some (.int .i64 0) := by simp [World.cell?, hb5]
    have v1 : W5.cell? ⟨w.heap.size + 1, 1, none⟩ = some (.string ⟨#[]⟩) := by simp [World.cell?, hb5]
    have v2 : W5.cell? ⟨w.heap.size + 1, 2, none⟩ = some (.string ⟨#[]⟩) := by simp [World.cell?, hb5]
    have v3 : W5.cell? ⟨w.heap.size + 1, 3, none⟩ = some (.bool false) := by simp [World.cell?, hb5]
    have f0 : W5.frozen? ⟨w.heap.size + 1, 0, none⟩ = false := by simp [World.frozen?, hb5]
    have f1 : W5.frozen? ⟨w.heap.size + 1, 1, none⟩ = false := by simp [World.frozen?, hb5]
    have f2 : W5.frozen? ⟨w.heap.size + 1, 2, none⟩ = false := by simp [World.frozen?, hb5]
    have f3 : W5.frozen? ⟨w.heap.size + 1, 3, none⟩ = false := by simp [World.frozen?, hb5]
    have m0 := HNW5.out.n0
    have m1 := HNW5.out.n1
    have m2 := HNW5.out.n2
    have m3 := HNW5.out.n3
    have vl := cell_lt v0
    have nl := cell_lt m0
    clear hb5
    go_wp2
    refine bodyPost_ret (v := .tuple #[vdV 0 zRg, .int .i64 z4]) (by unfold results; rw [Tryd.results15]; go_simp; first | done | rfl) rfl ⟨by rw [HJR.out], ?_⟩
    exact ext_set4 HNW5.out.h.x (Nat.le_succ _) (by (repeat (first | exact Ext.refl _ | apply Ext.drew_left | apply Ext.drew | apply Ext.alloc)))
  subst h4
  have c0 := HNW5.out.h.c0
  have c1 := HNW5.out.h.c1
  have cl := cell_lt c0
  go_wp2_with fail
  refine (rright_any br lf _).mono ?_
  rintro e W6 ⟨rfl, hx⟩
  have HNW6 := hid_mk (HNW5.out.ext hx)
  obtain ⟨rb, hrb⟩ : ∃ rb, rightB br lf = rb := ⟨_, rfl⟩
  have HRB := hid_mk hrb
  rw [hrb]
  clear hx hrb c0 c1 cl
  have HGG := hid_mk (show g = if rb = true ∧ 0 ≤ rf then 0 else 1 by
    rw [← HG.out, gChk_fst, Hz1.out, if_neg (by simp), gChk_fst, Hz2.out, if_neg (by simp), gChk_fst, Hz3.out, if_neg (by simp), gChk_fst, Hz4.out, if_neg (by simp), gChk_nil, HRB.out])
  cases rb with
  | false =>
    obtain rfl : 1 = g := by rw [HGG.out, if_neg (by simp)]
    have HJR := hid_mk (show J = (0, zRg) by rw [← HJ.out, if_pos (by omega)])
    have hb5 := HNW6.out.h.v
    have v0 : W6.cell? ⟨w.heap.size + 1, 0, none⟩ = some (.int .i64 0) := by simp [World.cell?, hb5]
    have v1 : W6.cell? ⟨w.heap.size + 1, 1, none⟩ = some (.string ⟨#[]⟩) := by simp [World.cell?, hb5]
    have v2 : W6.cell? ⟨w.heap.size + 1, 2, none⟩ = some (.string ⟨#[]⟩) := by simp [World.cell?, hb5]
    have v3 : W6.cell? ⟨w.heap.size + 1, 3, none⟩ = some (.bool false) := by simp [World.cell?, hb5]
    have f0 : W6.frozen? ⟨w.heap.size + 1, 0, none⟩ = false := by simp [World.frozen?, hb5]
    have f1 : W6.frozen? ⟨w.heap.size + 1, 1, none⟩ = false := by simp [World.frozen?, hb5]
    have f2 : W6.frozen? ⟨w.heap.size + 1, 2, none⟩ = false := by simp [World.frozen?, hb5]
    have f3 : W6.frozen? ⟨w.heap.size + 1, 3, none⟩ = false := by simp [World.frozen?, hb5]
    have m0 := HNW6.out.n0
    have m1 := HNW6.out.n1
    have m2 := HNW6.out.n2
    have m3 := HNW6.out.n3
    have vl := cell_lt v0
    have nl := cell_lt m0
    clear hb5
    go_wp2
    refine bodyPost_ret (v := .tuple #[vdV 0 zRg, .int .i64 1]) (by unfold results; rw [Tryd.results15]; go_simp; first | done | rfl) rfl ⟨by rw [HJR.out], ?_⟩
    exact ext_set4 HNW6.out.h.x (Nat.le_succ _) (by (repeat (first | exact Ext.refl _ | apply Ext.drew_left | apply Ext.drew | apply Ext.alloc)))
  | true =>
    by_cases hrf : rf < 0
    · obtain rfl : 1 = g := by rw [HGG.out, if_neg (by omega)]
      have HJR := hid_mk (show J = (0, zRg) by rw [← HJ.out, if_pos (by omega)])
      have hb5 := HNW6.out.h.v
      have v0 : W6.cell? ⟨w.heap.size + 1, 0, none⟩ = some (.int .i64 0) := by simp [World.cell?, hb5]
      have v1 : W6.cell? ⟨w.heap.size + 1, 1, none⟩ = some (.string ⟨#[]⟩) := by simp [World.cell?, hb5]
      have v2 : W6.cell? ⟨w.heap.size + 1, 2, none⟩ = some (.string ⟨#[]⟩) := by simp [World.cell?, hb5]
      have v3 : W6.cell? ⟨w.heap.size + 1, 3, none⟩ = some (.bool false) := by simp [World.cell?, hb5]
      have f0 : W6.frozen? ⟨w.heap.size + 1, 0, none⟩ = false := by simp [World.frozen?, hb5]
      have f1 : W6.frozen? ⟨w.heap.size + 1, 1, none⟩ = false := by simp [World.frozen?, hb5]
      have f2 : W6.frozen? ⟨w.heap.size + 1, 2, none⟩ = false := by simp [World.frozen?, hb5]
      have f3 : W6.frozen? ⟨w.heap.size + 1, 3, none⟩ = false := by simp [World.frozen?, hb5]
      have m0 := HNW6.out.n0
      have m1 := HNW6.out.n1
      have m2 := HNW6.out.n2
      have m3 := HNW6.out.n3
      have vl := cell_lt v0
      have nl := cell_lt m0
      clear hb5
      go_wp2
      refine bodyPost_ret (v := .tuple #[vdV 0 zRg, .int .i64 1]) (by unfold results; rw [Tryd.results15]; go_simp; first | done | rfl) rfl ⟨by rw [HJR.out], ?_⟩
      exact ext_set4 HNW6.out.h.x (Nat.le_succ _) (by (repeat (first | exact Ext.refl _ | apply Ext.drew_left | apply Ext.drew | apply Ext.alloc)))
    · have hrf' : ¬ rf < 0 := hrf
      obtain rfl : 0 = g := by rw [HGG.out, if_pos ⟨rfl, by omega⟩]
      rw [if_neg (by simp)] at HJ
      have HG2 := hid_mk (show gChk [a, b] br lf 0 = 0 by rw [gChk_fst, Hz1.out, if_neg (by simp), gChk_fst, Hz2.out, if_neg (by simp), gChk_nil, if_pos ⟨HRB.out, by omega⟩])
      have HM := hid_mk (And.intro (mapOk_held Hz1.out) (mapOk_held Hz2.out))
      have hX := (mapOk_held Hz3.out).n
      have hY := (mapOk_held Hz4.out).n
      go_wp2_with fail
      refine (r9Max_any a b _ _ (HS.out.1.ext HNW6.out.h.x) (HS.out.2.1.ext HNW6.out.h.x) (by have := HM.out.1.n; omega) (by have := HM.out.2.n; omega)).mono ?_
      rintro e W7 ⟨mv, rfl, ho, hx⟩
      rw [rmaxR_eq] at ho
      have HV3 := hid_mk (HNW6.out.ext hx)
      have hml : (maxR a b).length ≤ 600 := by
        have := maxR_len a b
        have := HM.out.1.n
        have := HM.out.2.n
        omega
      have HO := hid_mk (ho.sl (by omega))
      obtain ⟨mx, hmx⟩ : ∃ mx, maxR a b = mx := ⟨_, rfl⟩
      rw [hmx] at HO hml HJ ho
      obtain ⟨ma, mc, rfl⟩ := own_form ho
      clear hx ho HNW6 hmx
      go_wp2_with fail
      refine (ralike_any X mx _ _ (HS.out.2.2.1.ext HV3.out.h.x) HO.out (by omega) (by omega)).mono ?_
      rintro e W8 ⟨rfl, hx4⟩
      have HV4 := hid_mk (HV3.out.ext hx4)
      have HO4 := hid_mk (HO.out.ext hx4)
      obtain ⟨ax, hax⟩ : ∃ ax, alikeB X mx = ax := ⟨_, rfl⟩
      rw [hax] at HJ ⊢
      clear hx4 HV3 HO hax
      cases ax with
      | false =>
        have HJ2 := hid_mk (show judgeT (twinsF br lf 600 b a [⟨⟨#[]⟩, ⟨#[]⟩, true⟩]) rf = J by rw [← HJ.out, if_neg (by simp)])
        have HV5 := hid_mk HV4.out
        have c0 := HV5.out.h.c0
        have c1 := HV5.out.h.c1
        have cl := cell_lt c0
        go_wp2_with fail
        refine (rTwins_any a b _ _ br lf (HS.out.1.ext HV5.out.h.x) (HS.out.2.1.ext HV5.out.h.x)).mono ?_
        rintro e W9 ⟨rfl, hx⟩
        have HV6 := hid_mk (HV5.out.ext hx)
        obtain ⟨T, hT⟩ : ∃ T, twinsF br lf 600 b a [⟨⟨#[]⟩, ⟨#[]⟩, true⟩] = T := ⟨_, rfl⟩
        rw [hT] at HJ2
        rw [show twinsV a b br lf = .tuple #[rgV (T.getD zRg), .bool T.isSome, .int .i64 0] by rw [twinsV, HG2.out, twinsP, if_pos HG2.out, hT]]
        clear hx HV5 c0 c1 cl hT
        cases T with
        | some r =>
          have HJR := hid_mk (show J = (2, r) from HJ2.out.symm)
          simp only [Option.getD_some, Option.isSome_some]
          have hb5 := HV6.out.h.v
          have v0 : W9.cell? ⟨w.heap.size + 1, 0, none⟩ = some (.int .i64 0) := by simp [World.cell?, hb5]
          have v1 : W9.cell? ⟨w.heap.size + 1, 1, none⟩ = some (.string ⟨#[]⟩) := by simp [World.cell?, hb5]
          have v2 : W9.cell? ⟨w.heap.size + 1, 2, none⟩ = some (.string ⟨#[]⟩) := by simp [World.cell?, hb5]
          have v3 : W9.cell? ⟨w.heap.size + 1, 3, none⟩ = some (.bool false) := by simp [World.cell?, hb5]
          have f0 : W9.frozen? ⟨w.heap.size + 1, 0, none⟩ = false := by simp [World.frozen?, hb5]
          have f1 : W9.frozen? ⟨w.heap.size + 1, 1, none⟩ = false := by simp [World.frozen?, hb5]
          have f2 : W9.frozen? ⟨w.heap.size + 1, 2, none⟩ = false := by simp [World.frozen?, hb5]
          have f3 : W9.frozen? ⟨w.heap.size + 1, 3, none⟩ = false := by simp [World.frozen?, hb5]
          have m0 := HV6.out.n0
          have m1 := HV6.out.n1
          have m2 := HV6.out.n2
          have m3 := HV6.out.n3
          have vl := cell_lt v0
          have nl := cell_lt m0
          clear hb5
          go_wp2
          refine bodyPost_ret (v := .tuple #[vdV 2 r, .int .i64 0]) (by unfold results; rw [Tryd.results15]; go_simp; first | done | rfl) rfl ⟨by rw [HJR.out], ?_⟩
          exact ext_set4 HV6.out.h.x (Nat.le_succ _) (by (repeat (first | exact Ext.refl _ | apply Ext.drew_left | apply Ext.drew | apply Ext.alloc)))
        | none =>
          simp only [Option.getD_none, Option.isSome_none]
          by_cases hrp : 0 < rf
          · have HJR := hid_mk (show J = (3, zRg) by rw [← HJ2.out, judgeT, if_pos hrp])
            have hb5 := HV6.out.h.v
            have v0 : W9.cell? ⟨w.heap.size + 1, 0, none⟩ = some (.int .i64 0) := by simp [World.cell?, hb5]
            have v1 : W9.cell? ⟨w.heap.size + 1, 1, none⟩ = some (.string ⟨#[]⟩) := by simp [World.cell?, hb5]
            have v2 : W9.cell? ⟨w.heap.size + 1, 2, none⟩ = some (.string ⟨#[]⟩) := by simp [World.cell?, hb5]
            have v3 : W9.cell? ⟨w.heap.size + 1, 3, none⟩ = some (.bool false) := by simp [World.cell?, hb5]
            have f0 : W9.frozen? ⟨w.heap.size + 1, 0, none⟩ = false := by simp [World.frozen?, hb5]
            have f1 : W9.frozen? ⟨w.heap.size + 1, 1, none⟩ = false := by simp [World.frozen?, hb5]
            have f2 : W9.frozen? ⟨w.heap.size + 1, 2, none⟩ = false := by simp [World.frozen?, hb5]
            have f3 : W9.frozen? ⟨w.heap.size + 1, 3, none⟩ = false := by simp [World.frozen?, hb5]
            have m0 := HV6.out.n0
            have m1 := HV6.out.n1
            have m2 := HV6.out.n2
            have m3 := HV6.out.n3
            have vl := cell_lt v0
            have nl := cell_lt m0
            clear hb5
            go_wp2
            refine bodyPost_ret (v := .tuple #[vdV 3 zRg, .int .i64 0]) (by unfold results; rw [Tryd.results15]; go_simp; first | done | rfl) rfl ⟨by rw [HJR.out], ?_⟩
            exact ext_set4 HV6.out.h.x (Nat.le_succ _) (by (repeat (first | exact Ext.refl _ | apply Ext.drew_left | apply Ext.drew | apply Ext.alloc)))
          · have HJR := hid_mk (show J = (0, zRg) by rw [← HJ2.out, judgeT, if_neg hrp])
            have hb5 := HV6.out.h.v
            have v0 : W9.cell? ⟨w.heap.size + 1, 0, none⟩ = some (.int .i64 0) := by simp [World.cell?, hb5]
            have v1 : W9.cell? ⟨w.heap.size + 1, 1, none⟩ = some (.string ⟨#[]⟩) := by simp [World.cell?, hb5]
            have v2 : W9.cell? ⟨w.heap.size + 1, 2, none⟩ = some (.string ⟨#[]⟩) := by simp [World.cell?, hb5]
            have v3 : W9.cell? ⟨w.heap.size + 1, 3, none⟩ = some (.bool false) := by simp [World.cell?, hb5]
            have f0 : W9.frozen? ⟨w.heap.size + 1, 0, none⟩ = false := by simp [World.frozen?, hb5]
            have f1 : W9.frozen? ⟨w.heap.size + 1, 1, none⟩ = false := by simp [World.frozen?, hb5]
            have f2 : W9.frozen? ⟨w.heap.size + 1, 2, none⟩ = false := by simp [World.frozen?, hb5]
            have f3 : W9.frozen? ⟨w.heap.size + 1, 3, none⟩ = false := by simp [World.frozen?, hb5]
            have m0 := HV6.out.n0
            have m1 := HV6.out.n1
            have m2 := HV6.out.n2
            have m3 := HV6.out.n3
            have vl := cell_lt v0
            have nl := cell_lt m0
            clear hb5
            go_wp2
            refine bodyPost_ret (v := .tuple #[vdV 0 zRg, .int .i64 0]) (by unfold results; rw [Tryd.results15]; go_simp; first | done | rfl) rfl ⟨by rw [HJR.out], ?_⟩
            exact ext_set4 HV6.out.h.x (Nat.le_succ _) (by (repeat (first | exact Ext.refl _ | apply Ext.drew_left | apply Ext.drew | apply Ext.alloc)))
      | true =>
        go_wp2_with fail
        refine (ralike_any Y mx _ _ (HS.out.2.2.2.ext HV4.out.h.x) HO4.out (by omega) (by omega)).mono ?_
        rintro e WB ⟨rfl, hx5⟩
        have HV5 := hid_mk (HV4.out.ext hx5)
        obtain ⟨ay, hay⟩ : ∃ ay, alikeB Y mx = ay := ⟨_, rfl⟩
        rw [hay] at HJ ⊢
        clear hx5 HV4 HO4 hay
        cases ay with
        | true =>
          have HJR := hid_mk (show J = (1, zRg) by rw [← HJ.out, if_pos (by simp)])
          have hb5 := HV5.out.h.v
          have v0 : WB.cell? ⟨w.heap.size + 1, 0, none⟩ = some (.int .i64 0) := by simp [World.cell?, hb5]
          have v1 : WB.cell? ⟨w.heap.size + 1, 1, none⟩ = some (.string ⟨#[]⟩) := by simp [World.cell?, hb5]
          have v2 : WB.cell? ⟨w.heap.size + 1, 2, none⟩ = some (.string ⟨#[]⟩) := by simp [World.cell?, hb5]
          have v3 : WB.cell? ⟨w.heap.size + 1, 3, none⟩ = some (.bool false) := by simp [World.cell?, hb5]
          have f0 : WB.frozen? ⟨w.heap.size + 1, 0, none⟩ = false := by simp [World.frozen?, hb5]
          have f1 : WB.frozen? ⟨w.heap.size + 1, 1, none⟩ = false := by simp [World.frozen?, hb5]
          have f2 : WB.frozen? ⟨w.heap.size + 1, 2, none⟩ = false := by simp [World.frozen?, hb5]
          have f3 : WB.frozen? ⟨w.heap.size + 1, 3, none⟩ = false := by simp [World.frozen?, hb5]
          have m0 := HV5.out.n0
          have m1 := HV5.out.n1
          have m2 := HV5.out.n2
          have m3 := HV5.out.n3
          have vl := cell_lt v0
          have nl := cell_lt m0
          clear hb5
          go_wp2
          refine bodyPost_ret (v := .tuple #[vdV 1 zRg, .int .i64 0]) (by unfold results; rw [Tryd.results15]; go_simp; first | done | rfl) rfl ⟨by rw [HJR.out], ?_⟩
          exact ext_set4 HV5.out.h.x (Nat.le_succ _) (by (repeat (first | exact Ext.refl _ | apply Ext.drew_left | apply Ext.drew | apply Ext.alloc)))
        | false =>
          have HJ2 := hid_mk (show judgeT (twinsF br lf 600 b a [⟨⟨#[]⟩, ⟨#[]⟩, true⟩]) rf = J by rw [← HJ.out, if_neg (by simp)])
          have c0 := HV5.out.h.c0
          have c1 := HV5.out.h.c1
          have cl := cell_lt c0
          go_wp2_with fail
          refine (rTwins_any a b _ _ br lf (HS.out.1.ext HV5.out.h.x) (HS.out.2.1.ext HV5.out.h.x)).mono ?_
          rintro e W9 ⟨rfl, hx⟩
          have HV6 := hid_mk (HV5.out.ext hx)
          obtain ⟨T, hT⟩ : ∃ T, twinsF br lf 600 b a [⟨⟨#[]⟩, ⟨#[]⟩, true⟩] = T := ⟨_, rfl⟩
          rw [hT] at HJ2
          rw [show twinsV a b br lf = .tuple #[rgV (T.getD zRg), .bool T.isSome, .int .i64 0] by rw [twinsV, HG2.out, twinsP, if_pos HG2.out, hT]]
          clear hx HV5 c0 c1 cl hT
          cases T with
          | some r =>
            have HJR := hid_mk (show J = (2, r) from HJ2.out.symm)
            simp only [Option.getD_some, Option.isSome_some]
            have hb5 := HV6.out.h.v
            have v0 : W9.cell? ⟨w.heap.size + 1, 0, none⟩ = some (.int .i64 0) := by simp [World.cell?, hb5]
            have v1 : W9.cell? ⟨w.heap.size + 1, 1, none⟩ = some (.string ⟨#[]⟩) := by simp [World.cell?, hb5]
            have v2 : W9.cell? ⟨w.heap.size + 1, 2, none⟩ = some (.string ⟨#[]⟩) := by simp [World.cell?, hb5]
            have v3 : W9.cell? ⟨w.heap.size + 1, 3, none⟩ = some (.bool false) := by simp [World.cell?, hb5]
            have f0 : W9.frozen? ⟨w.heap.size + 1, 0, none⟩ = false := by simp [World.frozen?, hb5]
            have f1 : W9.frozen? ⟨w.heap.size + 1, 1, none⟩ = false := by simp [World.frozen?, hb5]
            have f2 : W9.frozen? ⟨w.heap.size + 1, 2, none⟩ = false := by simp [World.frozen?, hb5]
            have f3 : W9.frozen? ⟨w.heap.size + 1, 3, none⟩ = false := by simp [World.frozen?, hb5]
            have m0 := HV6.out.n0
            have m1 := HV6.out.n1
            have m2 := HV6.out.n2
            have m3 := HV6.out.n3
            have vl := cell_lt v0
            have nl := cell_lt m0
            clear hb5
            go_wp2
            refine bodyPost_ret (v := .tuple #[vdV 2 r, .int .i64 0]) (by unfold results; rw [Tryd.results15]; go_simp; first | done | rfl) rfl ⟨by rw [HJR.out], ?_⟩
            exact ext_set4 HV6.out.h.x (Nat.le_succ _) (by (repeat (first | exact Ext.refl _ | apply Ext.drew_left | apply Ext.drew | apply Ext.alloc)))
          | none =>
            simp only [Option.getD_none, Option.isSome_none]
            by_cases hrp : 0 < rf
            · have HJR := hid_mk (show J = (3, zRg) by rw [← HJ2.out, judgeT, if_pos hrp])
              have hb5 := HV6.out.h.v
              have v0 : W9.cell? ⟨w.heap.size + 1, 0, none⟩ = some (.int .i64 0) := by simp [World.cell?, hb5]
              have v1 : W9.cell? ⟨w.heap.size + 1, 1, none⟩ = some (.string ⟨#[]⟩) := by simp [World.cell?, hb5]
              have v2 : W9.cell? ⟨w.heap.size + 1, 2, none⟩ = some (.string ⟨#[]⟩) := by simp [World.cell?, hb5]
              have v3 : W9.cell? ⟨w.heap.size + 1, 3, none⟩ = some (.bool false) := by simp [World.cell?, hb5]
              have f0 : W9.frozen? ⟨w.heap.size + 1, 0, none⟩ = false := by simp [World.frozen?, hb5]
              have f1 : W9.frozen? ⟨w.heap.size + 1, 1, none⟩ = false := by simp [World.frozen?, hb5]
              have f2 : W9.frozen? ⟨w.heap.size + 1, 2, none⟩ = false := by simp [World.frozen?, hb5]
              have f3 : W9.frozen? ⟨w.heap.size + 1, 3, none⟩ = false := by simp [World.frozen?, hb5]
              have m0 := HV6.out.n0
              have m1 := HV6.out.n1
              have m2 := HV6.out.n2
              have m3 := HV6.out.n3
              have vl := cell_lt v0
              have nl := cell_lt m0
              clear hb5
              go_wp2
              refine bodyPost_ret (v := .tuple #[vdV 3 zRg, .int .i64 0]) (by unfold results; rw [Tryd.results15]; go_simp; first | done | rfl) rfl ⟨by rw [HJR.out], ?_⟩
              exact ext_set4 HV6.out.h.x (Nat.le_succ _) (by (repeat (first | exact Ext.refl _ | apply Ext.drew_left | apply Ext.drew | apply Ext.alloc)))
            · have HJR := hid_mk (show J = (0, zRg) by rw [← HJ2.out, judgeT, if_neg hrp])
              have hb5 := HV6.out.h.v
              have v0 : W9.cell? ⟨w.heap.size + 1, 0, none⟩ = some (.int .i64 0) := by simp [World.cell?, hb5]
              have v1 : W9.cell? ⟨w.heap.size + 1, 1, none⟩ = some (.string ⟨#[]⟩) := by simp [World.cell?, hb5]
              have v2 : W9.cell? ⟨w.heap.size + 1, 2, none⟩ = some (.string ⟨#[]⟩) := by simp [World.cell?, hb5]
              have v3 : W9.cell? ⟨w.heap.size + 1, 3, none⟩ = some (.bool false) := by simp [World.cell?, hb5]
              have f0 : W9.frozen? ⟨w.heap.size + 1, 0, none⟩ = false := by simp [World.frozen?, hb5]
              have f1 : W9.frozen? ⟨w.heap.size + 1, 1, none⟩ = false := by simp [World.frozen?, hb5]
              have f2 : W9.frozen? ⟨w.heap.size + 1, 2, none⟩ = false := by simp [World.frozen?, hb5]
              have f3 : W9.frozen? ⟨w.heap.size + 1, 3, none⟩ = false := by simp [World.frozen?, hb5]
              have m0 := HV6.out.n0
              have m1 := HV6.out.n1
              have m2 := HV6.out.n2
              have m3 := HV6.out.n3
              have vl := cell_lt v0
              have nl := cell_lt m0
              clear hb5
              go_wp2
              refine bodyPost_ret (v := .tuple #[vdV 0 zRg, .int .i64 0]) (by unfold results; rw [Tryd.results15]; go_simp; first | done | rfl) rfl ⟨by rw [HJR.out], ?_⟩
              exact ext_set4 HV6.out.h.x (Nat.le_succ _) (by (repeat (first | exact Ext.refl _ | apply Ext.drew_left | apply Ext.drew | apply Ext.alloc)))
end Go.Proofs.YtiimoaplhhnklaaDoor
namespace Go.Proofs.YtiimoaplhhnklaaDoor
open Go.RowKit
set_option maxHeartbeats 4000000
set_option maxRecDepth 100000
set_option linter.unusedSimpArgs false
set_option linter.unusedVariables false
attribute [-go_sem] Builtin.append_

theorem eql_verd_any (w : World) (k : Int) (r : Rg) : (binOp .eql 46 (vdV k r) (vdV k r)).run Tryd.prog w = .ok (.bool true) w := by
  obtain ⟨lo, hi, op⟩ := r
  dsimp only [vdV]
  go_simp
attribute [local go_sem ↓] eql_verd_any
theorem ghostJudges_walk (a b X Y : List Ent) (av bv xv yv : Value) (br lf wt tr rf : Int) (W : World) (ha : EntSl W av a) (hb : EntSl W bv b) (hx : EntSl W xv X) (hy : EntSl W yv Y) (hl : LanesAt W) :
    Calls Tryd.prog 4 #[av, bv, xv, yv, cfgV br lf wt tr, .int .i64 rf] W fun e w' => e = .returned (.bool true) ∧ Ext W w' := by
  have HS := hid_mk (And.intro ha (And.intro hb (And.intro hx hy)))
  have HL := hid_mk hl
  obtain ⟨xa, xc, rfl, -⟩ := ha
  obtain ⟨ya, yc, rfl, -⟩ := hb
  obtain ⟨za, zc, rfl, -⟩ := hx
  obtain ⟨ua, uc, rfl, -⟩ := hy
  clear hl
  go_enter Tryd.func4, Tryd.ntmps4
  go_wp2_with fail
  refine gen_callsJ (fun X => CAt W X br lf wt tr) ⟨by (repeat (first | exact Ext.refl _ | apply Ext.drew_left | apply Ext.drew | apply Ext.alloc)), by go_simp, by go_simp, by go_simp, by go_simp⟩ ?_
  intro W0 hc
  have HC0 := hid_mk hc
  clear hc
  refine (weigh_any _ a (HS.out.1.ext HC0.out.x)).mono ?_
  rintro e W1 ⟨n1, rfl, hn01, hn11, hn21, hx⟩
  have HC1 := hid_mk (HC0.out.ext hx)
  have HN1 := hid_mk hn21
  clear hx hn21 HC0
  by_cases hbig1 : 268435456 ≤ n1
  · go_wp2
    go_ret
    exact ⟨rfl, HC1.out.x⟩
  go_wp2_with fail
  refine (weigh_any _ b (HS.out.2.1.ext HC1.out.x)).mono ?_
  rintro e W2 ⟨n2, rfl, hn02, hn12, hn22, hx⟩
  have HC2 := hid_mk (HC1.out.ext hx)
  have HN2 := hid_mk hn22
  clear hx hn22 HC1
  by_cases hbig2 : 268435456 ≤ n2
  · go_wp2
    go_ret
    exact ⟨rfl, HC2.out.x⟩
  go_wp2_with fail
  refine (weigh_any _ X (HS.out.2.2.1.ext HC2.out.x)).mono ?_
  rintro e W3 ⟨n3, rfl, hn03, hn13, hn23, hx⟩
  have HC3 := hid_mk (HC2.out.ext hx)
  have HN3 := hid_mk hn23
  clear hx hn23 HC2
  by_cases hbig3 : 268435456 ≤ n3
  · go_wp2
    go_ret
    exact ⟨rfl, HC3.out.x⟩
  go_wp2_with fail
  refine (weigh_any _ Y (HS.out.2.2.2.ext HC3.out.x)).mono ?_
  rintro e W4 ⟨n4, rfl, hn04, hn14, hn24, hx⟩
  have HC4 := hid_mk (HC3.out.ext hx)
  have HN4 := hid_mk hn24
  clear hx hn24 HC3
  by_cases hbig4 : 268435456 ≤ n4
  · go_wp2
    go_ret
    exact ⟨rfl, HC4.out.x⟩
  have c0 := HC4.out.c0
  have c1 := HC4.out.c1
  have c2 := HC4.out.c2
  have c3 := HC4.out.c3
  have cl := cell_lt c0
  go_wp2_with fail
  refine (judge_any a b X Y _ _ _ _ br lf wt tr rf (HS.out.1.ext HC4.out.x) (HS.out.2.1.ext HC4.out.x) (HS.out.2.2.1.ext HC4.out.x) (HS.out.2.2.2.ext HC4.out.x) (HL.out.ext HC4.out.x)).mono ?_
  rintro e W8 ⟨rfl, hx⟩
  have HC8 := hid_mk (HC4.out.ext hx)
  obtain ⟨k, hk⟩ : ∃ k, (judgeP a b X Y br lf rf).1 = k := ⟨_, rfl⟩
  obtain ⟨r, hr⟩ : ∃ r, (judgeP a b X Y br lf rf).2 = r := ⟨_, rfl⟩
  obtain ⟨g, hg⟩ : ∃ g, gChk [a, b, X, Y] br lf rf = g := ⟨_, rfl⟩
  have HK := hid_mk (And.intro hk (And.intro hr hg))
  rw [hk, hr, hg]
  clear hx HC4 c0 c1 c2 c3 cl hk hr hg
  have c0 := HC8.out.c0
  have c1 := HC8.out.c1
  have c2 := HC8.out.c2
  have c3 := HC8.out.c3
  have cl := cell_lt c0
  go_wp2_with fail
  refine gen_callsJ (fun Y' => Ext W8 Y' ∧ Y'.cell? ⟨W8.heap.size, 0, none⟩ = some (.int .i64 k) ∧ Y'.cell? ⟨W8.heap.size, 1, none⟩ = some (.string r.lo) ∧ Y'.cell? ⟨W8.heap.size, 2, none⟩ = some (.string r.hi) ∧ Y'.cell? ⟨W8.heap.size, 3, none⟩ = some (.bool r.op)) ⟨by (repeat (first | exact Ext.refl _ | apply Ext.drew_left | apply Ext.drew | apply Ext.alloc)), by go_simp, by go_simp, by go_simp, by go_simp⟩ ?_
  rintro W9 ⟨hx, d0, d1, d2, d3⟩
  have HC9 := hid_mk (HC8.out.ext hx)
  have HD9 := hid_mk (And.intro d0 (And.intro d1 (And.intro d2 d3)))
  clear hx HC8 c0 c1 c2 c3 cl d0 d1 d2 d3
  refine (rjudge_gen a b X Y _ _ _ _ br lf wt tr rf (HS.out.1.ext HC9.out.x) (HS.out.2.1.ext HC9.out.x) (HS.out.2.2.1.ext HC9.out.x) (HS.out.2.2.2.ext HC9.out.x)).mono ?_
  rintro e WA ⟨rfl, hx⟩
  rw [HK.out.1, HK.out.2.1, HK.out.2.2]
  have HCA := hid_mk (HC9.out.ext hx)
  have d0 := cell_ext hx HD9.out.1
  have d1 := cell_ext hx HD9.out.2.1
  have d2 := cell_ext hx HD9.out.2.2.1
  have d3 := cell_ext hx HD9.out.2.2.2
  have dl := cell_lt d0
  clear hx HC9 HD9
  go_wp2
  go_ret
  exact ⟨rfl, Ext.trans _ _ _ HCA.out.x (by (repeat (first | exact Ext.refl _ | apply Ext.drew_left | apply Ext.drew | apply Ext.alloc)))⟩
end Go.Proofs.YtiimoaplhhnklaaDoor
