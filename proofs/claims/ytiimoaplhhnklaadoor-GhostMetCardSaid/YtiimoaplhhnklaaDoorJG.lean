/- Judging: what both Judges say of maps that have met. -/
import Derived.Test.YtiimoaplhhnklaaDoorJF
namespace Go.Proofs.YtiimoaplhhnklaaDoor
open Go.RowKit
set_option maxHeartbeats 4000000
set_option maxRecDepth 100000
set_option linter.unusedSimpArgs false
set_option linter.unusedVariables false
attribute [-go_sem] Builtin.append_

abbrev verV (k : Int) : Value := .agg #[.int .i64 k, .string ⟨#[]⟩, .string ⟨#[]⟩, .bool false]
/-- What a Judge lays for itself first. -/
structure VAt (w W : World) (b l wt tr : Int) : Prop where
  x : Ext w W
  c0 : W.cell? ⟨w.heap.size, 0, none⟩ = some (.int .i64 b)
  c1 : W.cell? ⟨w.heap.size, 1, none⟩ = some (.int .i64 l)
  c2 : W.cell? ⟨w.heap.size, 2, none⟩ = some (.int .i64 wt)
  c3 : W.cell? ⟨w.heap.size, 3, none⟩ = some (.int .i64 tr)
  v : W.heap[w.heap.size + 1]? = some (.cells #[.int .i64 0, .string ⟨#[]⟩, .string ⟨#[]⟩, .bool false] 46 (0, 0))
theorem VAt.ext {w W W' : World} {b l wt tr : Int} (h : VAt w W b l wt tr) (hx : Ext W W') : VAt w W' b l wt tr :=
  ⟨Ext.trans _ _ _ h.x hx, cell_ext hx h.c0, cell_ext hx h.c1, cell_ext hx h.c2, cell_ext hx h.c3, (hx.below.block _ (Array.getElem?_eq_some_iff.1 h.v).1).trans h.v⟩
theorem judge_met {w : World} (a b X : List Ent) (av bv xv : Value) (br lf wt tr rf : Int) (ha : EntSl w av a) (hb : EntSl w bv b) (hx : EntSl w xv X) (h0 : gChk [a, b, X, X] br lf rf = 0) (hal : alikeB X (maxR a b) = true) :
    Calls Tryd.prog 14 #[av, bv, xv, xv, cfgV br lf wt tr, .int .i64 rf] w fun e w' => e = .returned (.tuple #[verV 1, .int .i64 0]) ∧ Ext w w' := by
  obtain ⟨hz, -, -⟩ := gChk_zero h0
  have HL := hid_mk (And.intro (heldE_zero (hz a (by simp))).2 (And.intro (heldE_zero (hz b (by simp))).2 (heldE_zero (hz X (by simp))).2))
  have HS := hid_mk (And.intro ha (And.intro hb hx))
  have HG := hid_mk h0
  have HA := hid_mk hal
  obtain ⟨xa, xc, rfl, -⟩ := ha
  obtain ⟨ya, yc, rfl, -⟩ := hb
  obtain ⟨za, zc, rfl, -⟩ := hx
  clear hz h0 hal
  go_enter Tryd.func14, Tryd.ntmps14
  go_wp2_with fail
  refine gen_callsJ (fun W => VAt w W br lf wt tr ∧ SnSl W (.slice (some ⟨w.heap.size + 1 + 1, 0, none⟩) 4 4) [a, b, X, X]) ⟨⟨by (repeat (first | exact Ext.refl _ | apply Ext.drew_left | apply Ext.drew | apply Ext.alloc)), by go_simp, by go_simp, by go_simp, by go_simp, ?_⟩, ?_⟩ ?_
  · have h := heap_alloc_new (w.alloc (.cells #[.int .i64 br, .int .i64 lf, .int .i64 wt, .int .i64 tr] 44)) (.cells #[.int .i64 0, .string ⟨#[]⟩, .string ⟨#[]⟩, .bool false] 46)
    rw [World.size_alloc] at h
    refine Eq.trans ?_ h
    exact (Below.heap_alloc _ _ _ (by simp))
  · refine ⟨_, 4, rfl, by simp, by simp, fun _ => ⟨_, 0, rfl, fun i hi => ?_⟩⟩
    have hxx : Ext w (((w.alloc (.cells #[.int .i64 br, .int .i64 lf, .int .i64 wt, .int .i64 tr] 44)).alloc (.cells #[.int .i64 0, .string ⟨#[]⟩, .string ⟨#[]⟩, .bool false] 46)).alloc (.cells #[.slice xa a.length xc, .slice ya b.length yc, .slice za X.length zc, .slice za X.length zc] 22)) := by (repeat (first | exact Ext.refl _ | apply Ext.drew_left | apply Ext.drew | apply Ext.alloc))
    match i, hi with
    | 0, _ => exact ⟨.slice xa a.length xc, by go_simp, HS.out.1.ext hxx⟩
    | 1, _ => exact ⟨.slice ya b.length yc, by go_simp, HS.out.2.1.ext hxx⟩
    | 2, _ => exact ⟨.slice za X.length zc, by go_simp, HS.out.2.2.ext hxx⟩
    | 3, _ => exact ⟨.slice za X.length zc, by go_simp, HS.out.2.2.ext hxx⟩
  rintro W1 ⟨hv1, hsn⟩
  have HV1 := hid_mk hv1
  refine (gcheck_any br lf wt tr rf _ _ hsn).mono ?_
  rintro e W2 ⟨rfl, hx2⟩
  rw [HG.out]
  have HV2 := hid_mk (HV1.out.ext hx2)
  clear hv1 hsn hx2 HV1
  go_wp2_with fail
  refine (mMax_any a b _ _ (HS.out.1.ext HV2.out.x) (HS.out.2.1.ext HV2.out.x) (by have := HL.out.1; omega) (by have := HL.out.2.1; omega)).mono ?_
  rintro e W3 ⟨mv, rfl, ho, hx3⟩
  have HV3 := hid_mk (HV2.out.ext hx3)
  have hml : (maxR a b).length ≤ 600 := by
    unfold maxR
    split
    · rw [List.length_map]
      have := prs_len a b
      have := HL.out
      omega
    · simp
  have HO := hid_mk (ho.sl (by omega))
  obtain ⟨mx, hmx⟩ : ∃ mx, maxR a b = mx := ⟨_, rfl⟩
  rw [hmx] at HO hml HA ho
  obtain ⟨ma, mc, rfl⟩ := own_form ho
  clear hx3 ho HV2 hmx
  go_wp2_with fail
  refine (alike_any X mx _ _ (HS.out.2.2.ext HV3.out.x) HO.out (by have := HL.out.2.2; omega) (by omega)).mono ?_
  rintro e W4 ⟨rfl, hx4⟩
  rw [HA.out]
  have HV4 := hid_mk (HV3.out.ext hx4)
  have HO4 := hid_mk (HO.out.ext hx4)
  clear hx4 HV3
  go_wp2_with fail
  refine (alike_any X mx _ _ (HS.out.2.2.ext HV4.out.x) HO4.out (by have := HL.out.2.2; omega) (by omega)).mono ?_
  rintro e W5 ⟨rfl, hx5⟩
  rw [HA.out]
  have HV5 := hid_mk (HV4.out.ext hx5)
  clear hx5 HV4
  have hb5 := HV5.out.v
  have v0 : W5.cell? ⟨w.heap.size + 1, 0, none⟩ = some (.int .i64 0) := by simp [World.cell?, hb5]
  have v1 : W5.cell? ⟨w.heap.size + 1, 1, none⟩ = some (.string ⟨#[]⟩) := by simp [World.cell?, hb5]
  have v2 : W5.cell? ⟨w.heap.size + 1, 2, none⟩ = some (.string ⟨#[]⟩) := by simp [World.cell?, hb5]
  have v3 : W5.cell? ⟨w.heap.size + 1, 3, none⟩ = some (.bool false) := by simp [World.cell?, hb5]
  have f0 : W5.frozen? ⟨w.heap.size + 1, 0, none⟩ = false := by simp [World.frozen?, hb5]
  have f1 : W5.frozen? ⟨w.heap.size + 1, 1, none⟩ = false := by simp [World.frozen?, hb5]
  have f2 : W5.frozen? ⟨w.heap.size + 1, 2, none⟩ = false := by simp [World.frozen?, hb5]
  have f3 : W5.frozen? ⟨w.heap.size + 1, 3, none⟩ = false := by simp [World.frozen?, hb5]
  have vl := cell_lt v0
  clear hb5
  go_wp2
  refine bodyPost_ret (v := .tuple #[verV 1, .int .i64 0]) (by unfold results; rw [Tryd.results14]; go_simp; first | done | rfl) rfl ⟨rfl, ?_⟩
  exact Xl.ext HV5.out.x (L := [w.heap.size + 1]) (((((Xl.refl W5).set (by simp)).set (by simp)).set (by simp)).set (by simp)) (by simp)
/-- What the document's Judge lays for itself first. -/
structure NAt (w W : World) (b l wt tr : Int) : Prop where
  h : VAt w W b l wt tr
  n0 : W.cell? ⟨w.heap.size + 1 + 1, 0, none⟩ = some (.int .i64 0)
  n1 : W.cell? ⟨w.heap.size + 1 + 1, 1, none⟩ = some (.string ⟨#[]⟩)
  n2 : W.cell? ⟨w.heap.size + 1 + 1, 2, none⟩ = some (.string ⟨#[]⟩)
  n3 : W.cell? ⟨w.heap.size + 1 + 1, 3, none⟩ = some (.bool false)
theorem NAt.ext {w W W' : World} {b l wt tr : Int} (h : NAt w W b l wt tr) (hx : Ext W W') : NAt w W' b l wt tr :=
  ⟨h.h.ext hx, cell_ext hx h.n0, cell_ext hx h.n1, cell_ext hx h.n2, cell_ext hx h.n3⟩
theorem gChk_fst {x : List Ent} {S : List (List Ent)} {b l r : Int} : gChk (x :: S) b l r = if heldE x ≠ 0 then heldE x else gChk S b l r := by
  unfold gChk
  by_cases h : heldE x = 0 <;> simp [List.find?_cons, h]
theorem rjudge_any {w : World} (a b X : List Ent) (av bv xv : Value) (br lf wt tr rf : Int) (ha : EntSl w av a) (hb : EntSl w bv b) (hx : EntSl w xv X) (hX : heldE a = 0 → heldE b = 0 → rmaxR a b = X) :
    Calls Tryd.prog 15 #[av, bv, xv, xv, cfgV br lf wt tr, .int .i64 rf] w fun e w' => e = .returned (.tuple #[verV (if gChk [a, b, X, X] br lf rf = 0 then 1 else 0), .int .i64 (gChk [a, b, X, X] br lf rf)]) ∧ Ext w w' := by
  have HS := hid_mk (And.intro ha (And.intro hb hx))
  have HX := hid_mk hX
  obtain ⟨g, hg⟩ : ∃ g, gChk [a, b, X, X] br lf rf = g := ⟨_, rfl⟩
  have HG := hid_mk hg
  rw [hg]
  obtain ⟨xa, xc, rfl, -⟩ := ha
  obtain ⟨ya, yc, rfl, -⟩ := hb
  obtain ⟨za, zc, rfl, -⟩ := hx
  clear hX hg
  go_enter Tryd.func15, Tryd.ntmps15
  go_wp2_with fail
  refine gen_callsJ (fun W => NAt w W br lf wt tr) ⟨⟨by (repeat (first | exact Ext.refl _ | apply Ext.drew_left | apply Ext.drew | apply Ext.alloc)), by go_simp, by go_simp, by go_simp, by go_simp, ?_⟩, by go_simp, by go_simp, by go_simp, by go_simp⟩ ?_
  · have h := heap_alloc_new (w.alloc (.cells #[.int .i64 br, .int .i64 lf, .int .i64 wt, .int .i64 tr] 44)) (.cells #[.int .i64 0, .string ⟨#[]⟩, .string ⟨#[]⟩, .bool false] 46)
    rw [World.size_alloc] at h
    refine Eq.trans ?_ h
    exact (Below.heap_alloc _ _ _ (by simp))
  rintro W1 hn1
  have HNW1 := hid_mk hn1
  clear hn1
  obtain ⟨z1, hz1⟩ : ∃ z, heldE a = z := ⟨_, rfl⟩
  have Hz1 := hid_mk hz1
  refine (rfheld_any _ a (HS.out.1.ext HNW1.out.h.x)).mono ?_
  rintro e W2 ⟨rfl, hx⟩
  rw [hz1]
  have HNW2 := hid_mk (HNW1.out.ext hx)
  clear hx hz1
  by_cases h1 : z1 = 0
  · subst h1
    go_wp2_with fail
    obtain ⟨z2, hz2⟩ : ∃ z, heldE b = z := ⟨_, rfl⟩
    have Hz2 := hid_mk hz2
    refine (rfheld_any _ b (HS.out.2.1.ext HNW2.out.h.x)).mono ?_
    rintro e W3 ⟨rfl, hx⟩
    rw [hz2]
    have HNW3 := hid_mk (HNW2.out.ext hx)
    clear hx hz2
    by_cases h2 : z2 = 0
    · subst h2
      have HX2 := hid_mk (HX.out Hz1.out Hz2.out)
      go_wp2_with fail
      obtain ⟨z3, hz3⟩ : ∃ z, heldE X = z := ⟨_, rfl⟩
      have Hz3 := hid_mk hz3
      refine (rfheld_any _ X (HS.out.2.2.ext HNW3.out.h.x)).mono ?_
      rintro e W4 ⟨rfl, hx⟩
      rw [hz3]
      have HNW4 := hid_mk (HNW3.out.ext hx)
      clear hx hz3
      by_cases h3 : z3 = 0
      · subst h3
        go_wp2_with fail
        refine (rfheld_any _ X (HS.out.2.2.ext HNW4.out.h.x)).mono ?_
        rintro e W5 ⟨rfl, hx⟩
        rw [Hz3.out]
        have HNW5 := hid_mk (HNW4.out.ext hx)
        clear hx
        have c0 := HNW5.out.h.c0
        have c1 := HNW5.out.h.c1
        have cl := cell_lt c0
        go_wp2_with fail
        refine (rright_any br lf _).mono ?_
        rintro e W6 ⟨rfl, hx⟩
        have HNW6 := hid_mk (HNW5.out.ext hx)
        obtain ⟨rb, hrb⟩ : ∃ rb, rightB br lf = rb := ⟨_, rfl⟩
        have HRB := hid_mk hrb
        rw [hrb]
        clear hx hrb c0 c1 cl
        have HGG := hid_mk (show g = if rb = true ∧ 0 ≤ rf then 0 else 1 by
          rw [← HG.out, gChk_none, HRB.out]
          intro x hx
          simp at hx
          rcases hx with rfl | rfl | rfl
          · exact Hz1.out
          · exact Hz2.out
          · exact Hz3.out)
        cases rb with
        | false =>
          obtain rfl : g = 1 := by rw [HGG.out, if_neg (by simp)]
          have hb5 := HNW6.out.h.v
          have v0 : W6.cell? ⟨w.heap.size + 1, 0, none⟩ = some (.int .i64 0) := by simp [World.cell?, hb5]
          have v1 : W6.cell? ⟨w.heap.size + 1, 1, none⟩ = some (.string ⟨#[]⟩) := by simp [World.cell?, hb5]
          have v2 : W6.cell? ⟨w.heap.size + 1, 2, none⟩ = some (.string ⟨#[]⟩) := by simp [World.cell?, hb5]
          have v3 : W6.cell? ⟨w.heap.size + 1, 3, none⟩ = some (.bool false) := by simp [World.cell?, hb5]
          have f0 : W6.frozen? ⟨w.heap.size + 1, 0, none⟩ = false := by simp [World.frozen?, hb5]
          have f1 : W6.frozen? ⟨w.heap.size + 1, 1, none⟩ = false := by simp [World.frozen?, hb5]
          have f2 : W6.frozen? ⟨w.heap.size + 1, 2, none⟩ = false := by simp [World.frozen?, hb5]
          have f3 : W6.frozen? ⟨w.heap.size + 1, 3, none⟩ = false := by simp [World.frozen?, hb5]
          have m0 := HNW6.out.n0
          have m1 := HNW6.out.n1
          have m2 := HNW6.out.n2
          have m3 := HNW6.out.n3
          have vl := cell_lt v0
          have nl := cell_lt m0
          clear hb5
          go_wp2
          refine bodyPost_ret (v := .tuple #[verV 0, .int .i64 1]) (by unfold results; rw [Tryd.results15]; go_simp; first | done | rfl) rfl ⟨by simp, ?_⟩
          exact Xl.ext HNW6.out.h.x (L := [w.heap.size + 1]) (((((Xl.refl W6).set (by simp)).set (by simp)).set (by simp)).set (by simp)) (by simp)
        | true =>
          by_cases hrf : rf < 0
          · obtain rfl : g = 1 := by rw [HGG.out, if_neg (by omega)]
            have hb5 := HNW6.out.h.v
            have v0 : W6.cell? ⟨w.heap.size + 1, 0, none⟩ = some (.int .i64 0) := by simp [World.cell?, hb5]
            have v1 : W6.cell? ⟨w.heap.size + 1, 1, none⟩ = some (.string ⟨#[]⟩) := by simp [World.cell?, hb5]
            have v2 : W6.cell? ⟨w.heap.size + 1, 2, none⟩ = some (.string ⟨#[]⟩) := by simp [World.cell?, hb5]
            have v3 : W6.cell? ⟨w.heap.size + 1, 3, none⟩ = some (.bool false) := by simp [World.cell?, hb5]
            have f0 : W6.frozen? ⟨w.heap.size + 1, 0, none⟩ = false := by simp [World.frozen?, hb5]
            have f1 : W6.frozen? ⟨w.heap.size + 1, 1, none⟩ = false := by simp [World.frozen?, hb5]
            have f2 : W6.frozen? ⟨w.heap.size + 1, 2, none⟩ = false := by simp [World.frozen?, hb5]
            have f3 : W6.frozen? ⟨w.heap.size + 1, 3, none⟩ = false := by simp [World.frozen?, hb5]
            have m0 := HNW6.out.n0
            have m1 := HNW6.out.n1
            have m2 := HNW6.out.n2
            have m3 := HNW6.out.n3
            have vl := cell_lt v0
            have nl := cell_lt m0
            clear hb5
            go_wp2
            refine bodyPost_ret (v := .tuple #[verV 0, .int .i64 1]) (by unfold results; rw [Tryd.results15]; go_simp; first | done | rfl) rfl ⟨by simp, ?_⟩
            exact Xl.ext HNW6.out.h.x (L := [w.heap.size + 1]) (((((Xl.refl W6).set (by simp)).set (by simp)).set (by simp)).set (by simp)) (by simp)
          · have hrf' : ¬ rf < 0 := hrf
            obtain rfl : g = 0 := by rw [HGG.out, if_pos ⟨rfl, by omega⟩]
            have HL := hid_mk (And.intro (heldE_zero Hz1.out).2 (And.intro (heldE_zero Hz2.out).2 (heldE_zero Hz3.out).2))
            go_wp2_with fail
            refine (r9Max_any a b _ _ (HS.out.1.ext HNW6.out.h.x) (HS.out.2.1.ext HNW6.out.h.x) (by have := HL.out.1; omega) (by have := HL.out.2.1; omega)).mono ?_
            rintro e W7 ⟨mv, rfl, ho, hx⟩
            rw [HX2.out] at ho
            have HNW7 := hid_mk (HNW6.out.ext hx)
            have HO := hid_mk (ho.sl (by have := HL.out.2.2; omega))
            obtain ⟨ma, mc, rfl⟩ := own_form ho
            clear hx ho
            have hqq : chk2 X X = 0 → ∀ p ∈ prs X X, vEq p = true := fun _ p hp => by
              rw [prs_self] at hp
              obtain ⟨x, -, rfl⟩ := List.mem_map.1 hp
              simp [vEq]
            have HQQ := hid_mk hqq
            clear hqq
            go_wp2_with fail
            refine (ralike_eq X X _ _ (HS.out.2.2.ext HNW7.out.h.x) HO.out (by have := HL.out.2.2; omega) (by have := HL.out.2.2; omega) HQQ.out).mono ?_
            rintro e W8 ⟨rfl, hx⟩
            have HNW8 := hid_mk (HNW7.out.ext hx)
            have HO8 := hid_mk (HO.out.ext hx)
            clear hx
            go_wp2_with fail
            refine (ralike_eq X X _ _ (HS.out.2.2.ext HNW8.out.h.x) HO8.out (by have := HL.out.2.2; omega) (by have := HL.out.2.2; omega) HQQ.out).mono ?_
            rintro e W9 ⟨rfl, hx⟩
            have HNW9 := hid_mk (HNW8.out.ext hx)
            clear hx
            have hb5 := HNW9.out.h.v
            have v0 : W9.cell? ⟨w.heap.size + 1, 0, none⟩ = some (.int .i64 0) := by simp [World.cell?, hb5]
            have v1 : W9.cell? ⟨w.heap.size + 1, 1, none⟩ = some (.string ⟨#[]⟩) := by simp [World.cell?, hb5]
            have v2 : W9.cell? ⟨w.heap.size + 1, 2, none⟩ = some (.string ⟨#[]⟩) := by simp [World.cell?, hb5]
            have v3 : W9.cell? ⟨w.heap.size + 1, 3, none⟩ = some (.bool false) := by simp [World.cell?, hb5]
            have f0 : W9.frozen? ⟨w.heap.size + 1, 0, none⟩ = false := by simp [World.frozen?, hb5]
            have f1 : W9.frozen? ⟨w.heap.size + 1, 1, none⟩ = false := by simp [World.frozen?, hb5]
            have f2 : W9.frozen? ⟨w.heap.size + 1, 2, none⟩ = false := by simp [World.frozen?, hb5]
            have f3 : W9.frozen? ⟨w.heap.size + 1, 3, none⟩ = false := by simp [World.frozen?, hb5]
            have m0 := HNW9.out.n0
            have m1 := HNW9.out.n1
            have m2 := HNW9.out.n2
            have m3 := HNW9.out.n3
            have vl := cell_lt v0
            have nl := cell_lt m0
            clear hb5
            go_wp2
            refine bodyPost_ret (v := .tuple #[verV 1, .int .i64 0]) (by unfold results; rw [Tryd.results15]; go_simp; first | done | rfl) rfl ⟨by simp, ?_⟩
            exact Xl.ext HNW9.out.h.x (L := [w.heap.size + 1]) (((((Xl.refl W9).set (by simp)).set (by simp)).set (by simp)).set (by simp)) (by simp)
      · have hb : (z3 == 0) = false := by rw [beq_eq_false_iff_ne]; exact h3
        obtain rfl : z3 = g := by rw [← HG.out, gChk_fst, Hz1.out, if_neg (by simp), gChk_fst, Hz2.out, if_neg (by simp), gChk_fst, Hz3.out, if_pos h3]
        have hb5 := HNW4.out.h.v
        have v0 : W4.cell? ⟨w.heap.size + 1, 0, none⟩ = some (.int .i64 0) := by simp [World.cell?, hb5]
        have v1 : W4.cell? ⟨w.heap.size + 1, 1, none⟩ = some (.string ⟨#[]⟩) := by simp [World.cell?, hb5]
        have v2 : W4.cell? ⟨w.heap.size + 1, 2, none⟩ = some (.string ⟨#[]⟩) := by simp [World.cell?, hb5]
        have v3 : W4.cell? ⟨w.heap.size + 1, 3, none⟩ = some (.bool false) := by simp [World.cell?, hb5]
        have f0 : W4.frozen? ⟨w.heap.size + 1, 0, none⟩ = false := by simp [World.frozen?, hb5]
        have f1 : W4.frozen? ⟨w.heap.size + 1, 1, none⟩ = false := by simp [World.frozen?, hb5]
        have f2 : W4.frozen? ⟨w.heap.size + 1, 2, none⟩ = false := by simp [World.frozen?, hb5]
        have f3 : W4.frozen? ⟨w.heap.size + 1, 3, none⟩ = false := by simp [World.frozen?, hb5]
        have m0 := HNW4.out.n0
        have m1 := HNW4.out.n1
        have m2 := HNW4.out.n2
        have m3 := HNW4.out.n3
        have vl := cell_lt v0
        have nl := cell_lt m0
        clear hb5
        go_wp2
        refine bodyPost_ret (v := .tuple #[verV 0, .int .i64 z3]) (by unfold results; rw [Tryd.results15]; go_simp; first | done | rfl) rfl ⟨rfl, ?_⟩
        exact Xl.ext HNW4.out.h.x (L := [w.heap.size + 1]) (((((Xl.refl W4).set (by simp)).set (by simp)).set (by simp)).set (by simp)) (by simp)
    · have hb : (z2 == 0) = false := by rw [beq_eq_false_iff_ne]; exact h2
      obtain rfl : z2 = g := by rw [← HG.out, gChk_fst, Hz1.out, if_neg (by simp), gChk_fst, Hz2.out, if_pos h2]
      have hb5 := HNW3.out.h.v
      have v0 : W3.cell? ⟨w.heap.size + 1, 0, none⟩ = some (.int .i64 0) := by simp [World.cell?, hb5]
      have v1 : W3.cell? ⟨w.heap.size + 1, 1, none⟩ = some (.string ⟨#[]⟩) := by simp [World.cell?, hb5]
      have v2 : W3.cell? ⟨w.heap.size + 1, 2, none⟩ = some (.string ⟨#[]⟩) := by simp [World.cell?, hb5]
      have v3 : W3.cell? ⟨w.heap.size + 1, 3, none⟩ = some (.bool false) := by simp [World.cell?, hb5]
      have f0 : W3.frozen? ⟨w.heap.size + 1, 0, none⟩ = false := by simp [World.frozen?, hb5]
      have f1 : W3.frozen? ⟨w.heap.size + 1, 1, none⟩ = false := by simp [World.frozen?, hb5]
      have f2 : W3.frozen? ⟨w.heap.size + 1, 2, none⟩ = false := by simp [World.frozen?, hb5]
      have f3 : W3.frozen? ⟨w.heap.size + 1, 3, none⟩ = false := by simp [World.frozen?, hb5]
      have m0 := HNW3.out.n0
      have m1 := HNW3.out.n1
      have m2 := HNW3.out.n2
      have m3 := HNW3.out.n3
      have vl := cell_lt v0
      have nl := cell_lt m0
      clear hb5
      go_wp2
      refine bodyPost_ret (v := .tuple #[verV 0, .int .i64 z2]) (by unfold results; rw [Tryd.results15]; go_simp; first | done | rfl) rfl ⟨rfl, ?_⟩
      exact Xl.ext HNW3.out.h.x (L := [w.heap.size + 1]) (((((Xl.refl W3).set (by simp)).set (by simp)).set (by simp)).set (by simp)) (by simp)
  · have hb : (z1 == 0) = false := by rw [beq_eq_false_iff_ne]; exact h1
    obtain rfl : z1 = g := by rw [← HG.out, gChk_fst, Hz1.out, if_pos h1]
    have hb5 := HNW2.out.h.v
    have v0 : W2.cell? ⟨w.heap.size + 1, 0, none⟩ = some (.int .i64 0) := by simp [World.cell?, hb5]
    have v1 : W2.cell? ⟨w.heap.size + 1, 1, none⟩ = some (.string ⟨#[]⟩) := by simp [World.cell?, hb5]
    have v2 : W2.cell? ⟨w.heap.size + 1, 2, none⟩ = some (.string ⟨#[]⟩) := by simp [World.cell?, hb5]
    have v3 : W2.cell? ⟨w.heap.size + 1, 3, none⟩ = some (.bool false) := by simp [World.cell?, hb5]
    have f0 : W2.frozen? ⟨w.heap.size + 1, 0, none⟩ = false := by simp [World.frozen?, hb5]
    have f1 : W2.frozen? ⟨w.heap.size + 1, 1, none⟩ = false := by simp [World.frozen?, hb5]
    have f2 : W2.frozen? ⟨w.heap.size + 1, 2, none⟩ = false := by simp [World.frozen?, hb5]
    have f3 : W2.frozen? ⟨w.heap.size + 1, 3, none⟩ = false := by simp [World.frozen?, hb5]
    have m0 := HNW2.out.n0
    have m1 := HNW2.out.n1
    have m2 := HNW2.out.n2
    have m3 := HNW2.out.n3
    have vl := cell_lt v0
    have nl := cell_lt m0
    clear hb5
    go_wp2
    refine bodyPost_ret (v := .tuple #[verV 0, .int .i64 z1]) (by unfold results; rw [Tryd.results15]; go_simp; first | done | rfl) rfl ⟨rfl, ?_⟩
    exact Xl.ext HNW2.out.h.x (L := [w.heap.size + 1]) (((((Xl.refl W2).set (by simp)).set (by simp)).set (by simp)).set (by simp)) (by simp)
end Go.Proofs.YtiimoaplhhnklaaDoor
