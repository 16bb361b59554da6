/- Judging: GhostMet, walked. -/
import Derived.Test.YtiimoaplhhnklaaDoorJH
namespace Go.Proofs.YtiimoaplhhnklaaDoor
open Go.RowKit
set_option maxHeartbeats 4000000
set_option maxRecDepth 100000
set_option linter.unusedSimpArgs false
set_option linter.unusedVariables false
attribute [-go_sem] Builtin.append_
theorem en_GhostMet : Enters Tryd.prog 5 := ⟨_, Tryd.func5, by kernel_rfl, rfl⟩
theorem eql_verd (w : World) : (binOp .eql 46 (verV 1) (verV 1)).run Tryd.prog w = .ok (.bool true) w := by kernel_rfl
attribute [local go_sem ↓] eql_verd
/-- The Config that the statement lays first. -/
structure CAt (w W : World) (b l wt tr : Int) : Prop where
  x : Ext w W
  c0 : W.cell? ⟨w.heap.size, 0, none⟩ = some (.int .i64 b)
  c1 : W.cell? ⟨w.heap.size, 1, none⟩ = some (.int .i64 l)
  c2 : W.cell? ⟨w.heap.size, 2, none⟩ = some (.int .i64 wt)
  c3 : W.cell? ⟨w.heap.size, 3, none⟩ = some (.int .i64 tr)
theorem CAt.ext {w W W' : World} {b l wt tr : Int} (h : CAt w W b l wt tr) (hx : Ext W W') : CAt w W' b l wt tr :=
  ⟨Ext.trans _ _ _ h.x hx, cell_ext hx h.c0, cell_ext hx h.c1, cell_ext hx h.c2, cell_ext hx h.c3⟩
theorem maxR_len (a b : List Ent) : (maxR a b).length ≤ a.length + b.length := by
  unfold maxR
  split
  · rw [List.length_map]
    exact prs_len a b
  · simp
theorem ghostMet_walk (a b : List Ent) (av bv : Value) (br lf wt tr rf : Int) (W : World) (ha : EntSl W av a) (hb : EntSl W bv b) :
    Calls Tryd.prog 5 #[av, bv, cfgV br lf wt tr, .int .i64 rf] W fun e w' => e = .returned (.bool true) ∧ Ext W w' := by
  have HS := hid_mk (And.intro ha hb)
  obtain ⟨xa, xc, rfl, -⟩ := ha
  obtain ⟨ya, yc, rfl, -⟩ := hb
  go_enter Tryd.func5, Tryd.ntmps5
  go_wp2_with fail
  refine gen_callsJ (fun X => CAt W X br lf wt tr) ⟨by (repeat (first | exact Ext.refl _ | apply Ext.drew_left | apply Ext.drew | apply Ext.alloc)), by go_simp, by go_simp, by go_simp, by go_simp⟩ ?_
  intro W0 hc
  have HC0 := hid_mk hc
  clear hc
  refine (weigh_any _ a (HS.out.1.ext HC0.out.x)).mono ?_
  rintro e W1 ⟨n, rfl, hn0, hn1, hn2, hx⟩
  have HC1 := hid_mk (HC0.out.ext hx)
  have HN := hid_mk hn2
  clear hx hn2 HC0
  by_cases hbig : 268435456 ≤ n
  · go_wp2
    go_ret
    exact ⟨rfl, HC1.out.x⟩
  go_wp2_with fail
  refine (weigh_any _ b (HS.out.2.ext HC1.out.x)).mono ?_
  rintro e W2 ⟨m, rfl, hm0, hm1, hm2, hx⟩
  have HC2 := hid_mk (HC1.out.ext hx)
  have HM := hid_mk hm2
  clear hx hm2 HC1
  by_cases hbig2 : 268435456 ≤ m
  · go_wp2
    go_ret
    exact ⟨rfl, HC2.out.x⟩
  have hla := HN.out (by omega)
  have hlb := HM.out (by omega)
  have HL := hid_mk (show a.length ≤ 300000000 ∧ b.length ≤ 300000000 from ⟨by omega, by omega⟩)
  clear hla hlb HN HM
  go_wp2_with fail
  refine (mMax_any a b _ _ (HS.out.1.ext HC2.out.x) (HS.out.2.ext HC2.out.x) HL.out.1 HL.out.2).mono ?_
  rintro e W3 ⟨mv, rfl, ho, hx⟩
  have HC3 := hid_mk (HC2.out.ext hx)
  have HO := hid_mk (ho.sl (by have := maxR_len a b; have := HL.out; omega))
  clear hx HC2
  obtain ⟨X, hX⟩ : ∃ X, maxR a b = X := ⟨_, rfl⟩
  obtain ⟨z, hz⟩ : ∃ z, chk2 a b = z := ⟨_, rfl⟩
  rw [hX] at HO ho
  rw [hz]
  have HX := hid_mk hX
  have HZ := hid_mk hz
  clear hz hX
  obtain ⟨ma, mc, rfl⟩ := own_form ho
  clear ho
  go_wp2_with fail
  refine (r9Max_any a b _ _ (HS.out.1.ext HC3.out.x) (HS.out.2.ext HC3.out.x) HL.out.1 HL.out.2).mono ?_
  rintro e W4 ⟨mv, rfl, ho, hx⟩
  have HC4 := hid_mk (HC3.out.ext hx)
  rw [rmaxR_eq, HX.out] at ho
  rw [HZ.out]
  have HO4 := hid_mk (HO.out.ext hx)
  have HR4 := hid_mk (ho.sl (by rw [← HX.out]; have := maxR_len a b; have := HL.out; omega))
  obtain ⟨na, nc, rfl⟩ := own_form ho
  clear ho hx HC3 HO
  go_wp2_with fail
  refine (ghSame_any _ _ X X HO4.out HR4.out).mono ?_
  rintro e W5 ⟨rfl, hx⟩
  rw [show decide (X = X) = true from decide_eq_true rfl]
  have HC5 := hid_mk (HC4.out.ext hx)
  have HO5 := hid_mk (HO4.out.ext hx)
  have HR5 := hid_mk (HR4.out.ext hx)
  clear hx HC4 HO4 HR4
  have c0 := HC5.out.c0
  have c1 := HC5.out.c1
  have c2 := HC5.out.c2
  have c3 := HC5.out.c3
  have cl := cell_lt c0
  go_wp2_with fail
  refine (rjudge_any a b X _ _ _ br lf wt tr rf (HS.out.1.ext HC5.out.x) (HS.out.2.ext HC5.out.x) HR5.out (fun _ _ => by rw [rmaxR_eq, HX.out])).mono ?_
  rintro e W6 ⟨rfl, hx⟩
  clear c0 c1 c2 c3 cl
  have HC6 := hid_mk (HC5.out.ext hx)
  have HO6 := hid_mk (HO5.out.ext hx)
  clear hx HC5 HO5 HR5
  obtain ⟨g, hg⟩ : ∃ g, gChk [a, b, X, X] br lf rf = g := ⟨_, rfl⟩
  rw [hg]
  have HG := hid_mk hg
  clear hg
  obtain ⟨kk, hkk⟩ : ∃ k : Int, (if g = 0 then (1 : Int) else 0) = k := ⟨_, rfl⟩
  rw [hkk]
  clear hkk
  have c0 := HC6.out.c0
  have c1 := HC6.out.c1
  have c2 := HC6.out.c2
  have c3 := HC6.out.c3
  have cl := cell_lt c0
  by_cases hz0 : z = 0
  rotate_left
  · have hb : (z == 0) = false := by rw [beq_eq_false_iff_ne]; exact hz0
    go_wp2
    go_ret
    exact ⟨rfl, Ext.trans _ _ _ HC6.out.x (by (repeat (first | exact Ext.refl _ | apply Ext.drew_left | apply Ext.drew | apply Ext.alloc)))⟩
  subst hz0
  by_cases hg0 : g = 0
  rotate_left
  · have hb : (g == 0) = false := by rw [beq_eq_false_iff_ne]; exact hg0
    go_wp2
    go_ret
    exact ⟨rfl, Ext.trans _ _ _ HC6.out.x (by (repeat (first | exact Ext.refl _ | apply Ext.drew_left | apply Ext.drew | apply Ext.alloc)))⟩
  subst hg0
  go_wp2_with fail
  refine gen_callsJ (fun Y => Ext W6 Y) (by (repeat (first | exact Ext.refl _ | apply Ext.drew_left | apply Ext.drew | apply Ext.alloc))) ?_
  intro W7 hx
  have HC7 := hid_mk (HC6.out.ext hx)
  have HO7 := hid_mk (HO6.out.ext hx)
  clear hx HC6 HO6 c0 c1 c2 c3 cl
  refine (judge_met a b X _ _ _ br lf wt tr rf (HS.out.1.ext HC7.out.x) (HS.out.2.ext HC7.out.x) HO7.out HG.out (by rw [← HX.out]; exact alikeB_self _)).mono ?_
  rintro e W8 ⟨rfl, hx⟩
  have HC8 := hid_mk (HC7.out.ext hx)
  have HO8 := hid_mk (HO7.out.ext hx)
  clear hx HC7 HO7
  have c0 := HC8.out.c0
  have c1 := HC8.out.c1
  have c2 := HC8.out.c2
  have c3 := HC8.out.c3
  have cl := cell_lt c0
  go_wp2_with fail
  refine gen_callsJ (fun Y => Ext W8 Y ∧ Y.cell? ⟨W8.heap.size, 0, none⟩ = some (.int .i64 1) ∧ Y.cell? ⟨W8.heap.size, 1, none⟩ = some (.string ⟨#[]⟩) ∧ Y.cell? ⟨W8.heap.size, 2, none⟩ = some (.string ⟨#[]⟩) ∧ Y.cell? ⟨W8.heap.size, 3, none⟩ = some (.bool false)) ⟨(by (repeat (first | exact Ext.refl _ | apply Ext.drew_left | apply Ext.drew | apply Ext.alloc))), by go_simp, by go_simp, by go_simp, by go_simp⟩ ?_
  rintro W9 ⟨hx, d0, d1, d2, d3⟩
  have HC9 := hid_mk (HC8.out.ext hx)
  have HO9 := hid_mk (HO8.out.ext hx)
  have HD9 := hid_mk (And.intro d0 (And.intro d1 (And.intro d2 d3)))
  clear hx HC8 HO8 c0 c1 c2 c3 cl d0 d1 d2 d3
  refine (judge_met b a X _ _ _ br lf wt tr rf (HS.out.2.ext HC9.out.x) (HS.out.1.ext HC9.out.x) HO9.out (gChk_swap HG.out) (by rw [← HX.out]; exact alikeB_swap _ _)).mono ?_
  rintro e WA ⟨rfl, hx⟩
  have HCA := hid_mk (HC9.out.ext hx)
  have d0 := cell_ext hx HD9.out.1
  have d1 := cell_ext hx HD9.out.2.1
  have d2 := cell_ext hx HD9.out.2.2.1
  have d3 := cell_ext hx HD9.out.2.2.2
  have dl := cell_lt d0
  clear hx HC9 HO9 HD9
  go_wp2
  go_ret
  exact ⟨rfl, Ext.trans _ _ _ HCA.out.x (by (repeat (first | exact Ext.refl _ | apply Ext.drew_left | apply Ext.drew | apply Ext.alloc)))⟩
end Go.Proofs.YtiimoaplhhnklaaDoor
