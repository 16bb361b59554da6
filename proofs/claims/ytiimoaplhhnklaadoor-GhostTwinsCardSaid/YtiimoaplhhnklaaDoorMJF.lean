/- Judging: ghost's check of what is handed in; what a Judge says of maps that have met. Judging: what both Judges say of maps that have met. Judging: the plain law of GhostMet: the best of two maps, whichever way round, is what a Judge calls met. -/
import Derived.Test.YtiimoaplhhnklaaDoorMJD
namespace Go.Proofs.YtiimoaplhhnklaaDoor
open Go.RowKit
set_option maxHeartbeats 4000000
set_option maxRecDepth 100000
set_option linter.unusedSimpArgs false
set_option linter.unusedVariables false
attribute [-go_sem] Builtin.append_
theorem en_mMax : Enters Tryd.prog 16 := ⟨_, Tryd.func16, by kernel_rfl, rfl⟩
theorem en_r9Max : Enters Tryd.prog 17 := ⟨_, Tryd.func17, by kernel_rfl, rfl⟩
theorem en_ghAlike : Enters Tryd.prog 31 := ⟨_, Tryd.func31, by kernel_rfl, rfl⟩
theorem en_rAlike : Enters Tryd.prog 32 := ⟨_, Tryd.func32, by kernel_rfl, rfl⟩
abbrev cfgV (b l wt tr : Int) : Value := .agg #[.int .i64 b, .int .i64 l, .int .i64 wt, .int .i64 tr]
def gChk (S : List (List Ent)) (b l r : Int) : Int := match S.find? (fun x => decide (heldE x ≠ 0)) with
  | some x => heldE x
  | none => if rightB b l = true ∧ 0 ≤ r then 0 else 1
theorem gChk_some {S : List (List Ent)} {b l r : Int} {k : Nat} (h : k < S.length) (h0 : ∀ x ∈ S.take k, heldE x = 0) (hk : heldE S[k] ≠ 0) : gChk S b l r = heldE S[k] := by
  have e : S.find? (fun x => decide (heldE x ≠ 0)) = some S[k] := by
    conv => lhs; rw [← List.take_append_drop k S, List.drop_eq_getElem_cons h]
    rw [List.find?_append, List.find?_eq_none.2 (fun x hx => by simp [h0 x hx]), Option.none_or, List.find?_cons_of_pos (by simpa using hk)]
  unfold gChk
  rw [e]
theorem gChk_none {S : List (List Ent)} {b l r : Int} (h0 : ∀ x ∈ S, heldE x = 0) : gChk S b l r = if rightB b l = true ∧ 0 ≤ r then 0 else 1 := by
  have e : S.find? (fun x => decide (heldE x ≠ 0)) = none := List.find?_eq_none.2 (fun x hx => by simp [h0 x hx])
  unfold gChk
  rw [e]
theorem gChk_zero {S : List (List Ent)} {b l r : Int} (h : gChk S b l r = 0) : (∀ x ∈ S, heldE x = 0) ∧ rightB b l = true ∧ 0 ≤ r := by
  unfold gChk at h
  split at h
  · rename_i x hx
    have := List.find?_some hx
    simp [h] at this
  · rename_i hx
    refine ⟨fun x hm => by simpa using List.find?_eq_none.1 hx x hm, ?_⟩
    split at h
    · assumption
    · cases h
theorem heldE_pos {l : List Ent} (h : mChk l = 0) (hl : 256 < l.length) : heldE l = 80 := by unfold heldE; rw [if_pos ⟨h, hl⟩]
theorem heldE_len {l : List Ent} (h : mChk l = 0) (hl : ¬ 256 < l.length) : heldE l = 0 := by unfold heldE; rw [if_neg (fun e => hl e.2), h]
theorem heldE_chk {l : List Ent} (h : mChk l ≠ 0) : heldE l = mChk l := by unfold heldE; rw [if_neg (fun e => h e.1)]
theorem heldE_zero {l : List Ent} (h : heldE l = 0) : mChk l = 0 ∧ l.length ≤ 256 := by
  unfold heldE at h
  split at h
  · cases h
  · rename_i h1
    exact ⟨h, by have := fun e => h1 ⟨h, e⟩; omega⟩
theorem gcheck_any {w : World} (b l wt tr r : Int) (sv : Value) (S : List (List Ent)) (hs : SnSl w sv S) :
    Calls Tryd.prog 19 #[cfgV b l wt tr, .int .i64 r, sv] w fun e w' => e = .returned (.int .i64 (gChk S b l r)) ∧ Ext w w' := by
  obtain ⟨a, c, rfl, hlc, hc63, hcells⟩ := hs
  have HC := hid_mk hcells
  clear hcells
  obtain ⟨res, hres⟩ : ∃ res, gChk S b l r = res := ⟨_, rfl⟩
  have HRES := hid_mk hres
  rw [hres]
  clear hres
  go_enter Tryd.func19, Tryd.ntmps19
  go_wp2_with fail
  have HX00 := hid_mk (show Ext w (w.alloc (.cells #[.int .i64 b, .int .i64 l, .int .i64 wt, .int .i64 tr] 44)) by (repeat (first | exact Ext.refl _ | apply Ext.drew_left | apply Ext.drew | apply Ext.alloc)))
  have HB0 := hid_mk (show (w.alloc (.cells #[.int .i64 b, .int .i64 l, .int .i64 wt, .int .i64 tr] 44)).cell? ⟨w.heap.size, 0, none⟩ = some (.int .i64 b) ∧ (w.alloc (.cells #[.int .i64 b, .int .i64 l, .int .i64 wt, .int .i64 tr] 44)).cell? ⟨w.heap.size, 1, none⟩ = some (.int .i64 l) from ⟨by go_simp, by go_simp⟩)
  go_loopw [12] (fun i wr => ∃ k : Nat, k ≤ S.length ∧ i = .int .i64 (k : Int) ∧ (∀ x ∈ S.take k, heldE x = 0) ∧ Ext (w.alloc (.cells #[.int .i64 b, .int .i64 l, .int .i64 wt, .int .i64 tr] 44)) wr) (fun i _ => S.length - (intOf i).toNat)
  case atStart => exact ⟨0, Nat.zero_le _, rfl, by simp, Ext.refl _⟩
  case round =>
    obtain ⟨k, hk, rfl, hf, hx⟩ := hrel
    have HF := hid_mk hf
    have HX0 := hid_mk hx
    have HX := hid_mk (Ext.trans _ _ _ HX00.out hx)
    clear hf hx
    by_cases hlt : k < S.length
    · obtain ⟨mb, mo, rfl, hcl⟩ := HC.out (by omega)
      obtain ⟨lv, hlv, hls⟩ := hcl k hlt
      have HLS := hid_mk (hls.ext HX.out)
      have a0 := cell_ext HX.out hlv
      have hal := cell_lt a0
      have HGS := hid_mk (fun (h : heldE S[k] ≠ 0) => gChk_some (b := b) (l := l) (r := r) hlt HF.out h)
      have HT := hid_mk (show S.take (k + 1) = S.take k ++ [S[k]] from List.take_succ_eq_append_getElem hlt)
      obtain ⟨L, hL⟩ : ∃ L, S[k] = L := ⟨_, rfl⟩
      rw [hL] at HLS HGS HT
      clear hls
      obtain ⟨la, lc, rfl, -⟩ := HLS.out
      have hk1 : (k : Int) < (S.length : Int) := by omega
      have hk0 : (0 : Int) ≤ (k : Int) := by omega
      have HW := hid_mk (show wrap64 ((k : Int) + 1) = (k : Int) + 1 from w64in (by omega))
      obtain ⟨z, hz⟩ : ∃ z, mChk L = z := ⟨_, rfl⟩
      have HZ := hid_mk hz
      clear hcl hlv hL hz
      go_wp2_with fail
      refine (mCheck_any L _ _ HLS.out).mono ?_
      rintro e w1 ⟨rfl, hx1⟩
      rw [HZ.out]
      have HX1 := hid_mk (Ext.trans _ _ _ HX0.out hx1)
      clear hx1
      by_cases hz0 : z = 0
      · subst hz0
        by_cases hbig : 256 < L.length
        · have hbig' : (256 : Int) < (L.length : Int) := by omega
          have HR := hid_mk (show (80 : Int) = res by rw [← HRES.out, HGS.out (by rw [heldE_pos HZ.out hbig]; simp), heldE_pos HZ.out hbig])
          go_wp2
          go_ret
          exact ⟨ret_int HR.out, Ext.trans _ _ _ HX00.out HX1.out⟩
        · have hbig' : ¬ (256 : Int) < (L.length : Int) := by omega
          have HH := hid_mk (heldE_len HZ.out hbig)
          go_wp2
          go_roundw
          case rel =>
            refine ⟨k + 1, by omega, (by first | exact congrArg (Value.int .i64) HW.out | rfl), fun x hx => ?_, HX1.out⟩
            rw [HT.out] at hx
            rcases List.mem_append.1 hx with hx | hx
            · exact HF.out x hx
            · rw [List.mem_singleton] at hx
              rw [hx]; exact HH.out
          case measure => (try simp only [HW.out]); simp [intOf]; omega
      · have hb : (z == 0) = false := by rw [beq_eq_false_iff_ne]; exact hz0
        have HR := hid_mk (show z = res by rw [← HRES.out, HGS.out (by rw [heldE_chk (by rw [HZ.out]; exact hz0), HZ.out]; exact hz0), heldE_chk (by rw [HZ.out]; exact hz0), HZ.out])
        go_wp2
        go_ret
        exact ⟨ret_int HR.out, Ext.trans _ _ _ HX00.out HX1.out⟩
    · obtain rfl : k = S.length := by omega
      have hmm : ¬ ((S.length : Nat) : Int) < (S.length : Int) := by omega
      rw [List.take_length] at HF
      have HR := hid_mk (show (if rightB b l = true ∧ 0 ≤ r then 0 else 1) = res by rw [← HRES.out, gChk_none HF.out])
      have d0 := cell_ext HX0.out HB0.out.1
      have d1 := cell_ext HX0.out HB0.out.2
      have hdl := cell_lt d0
      go_wp2
      all_goals go_ret
      all_goals refine ⟨ret_int ?_, HX.out⟩
      all_goals (rw [← HR.out]; unfold rightB; first | (rw [if_pos (by simp; omega)]) | (rw [if_neg (by simp; omega)]))
end Go.Proofs.YtiimoaplhhnklaaDoor
namespace Go.Proofs.YtiimoaplhhnklaaDoor
open Go.RowKit
set_option maxHeartbeats 4000000
set_option maxRecDepth 100000
set_option linter.unusedSimpArgs false
set_option linter.unusedVariables false
attribute [-go_sem] Builtin.append_

abbrev verV (k : Int) : Value := .agg #[.int .i64 k, .string ⟨#[]⟩, .string ⟨#[]⟩, .bool false]
/-- What a Judge lays for itself first. -/
structure VAt (w W : World) (b l wt tr : Int) : Prop where
  x : Ext w W
  c0 : W.cell? ⟨w.heap.size, 0, none⟩ = some (.int .i64 b)
  c1 : W.cell? ⟨w.heap.size, 1, none⟩ = some (.int .i64 l)
  c2 : W.cell? ⟨w.heap.size, 2, none⟩ = some (.int .i64 wt)
  c3 : W.cell? ⟨w.heap.size, 3, none⟩ = some (.int .i64 tr)
  v : W.heap[w.heap.size + 1]? = some (.cells #[.int .i64 0, .string ⟨#[]⟩, .string ⟨#[]⟩, .bool false] 46 (0, 0))
theorem VAt.ext {w W W' : World} {b l wt tr : Int} (h : VAt w W b l wt tr) (hx : Ext W W') : VAt w W' b l wt tr :=
  ⟨Ext.trans _ _ _ h.x hx, cell_ext hx h.c0, cell_ext hx h.c1, cell_ext hx h.c2, cell_ext hx h.c3, (hx.below.block _ (Array.getElem?_eq_some_iff.1 h.v).1).trans h.v⟩
theorem judge_met {w : World} (a b X : List Ent) (av bv xv : Value) (br lf wt tr rf : Int) (ha : EntSl w av a) (hb : EntSl w bv b) (hx : EntSl w xv X) (h0 : gChk [a, b, X, X] br lf rf = 0) (hal : alikeB X (maxR a b) = true) :
    Calls Tryd.prog 14 #[av, bv, xv, xv, cfgV br lf wt tr, .int .i64 rf] w fun e w' => e = .returned (.tuple #[verV 1, .int .i64 0]) ∧ Ext w w' := by
  obtain ⟨hz, -, -⟩ := gChk_zero h0
  have HL := hid_mk (And.intro (heldE_zero (hz a (by simp))).2 (And.intro (heldE_zero (hz b (by simp))).2 (heldE_zero (hz X (by simp))).2))
  have HS := hid_mk (And.intro ha (And.intro hb hx))
  have HG := hid_mk h0
  have HA := hid_mk hal
  obtain ⟨xa, xc, rfl, -⟩ := ha
  obtain ⟨ya, yc, rfl, -⟩ := hb
  obtain ⟨za, zc, rfl, -⟩ := hx
  clear hz h0 hal
  go_enter Tryd.func14, Tryd.ntmps14
  go_wp2_with fail
  refine gen_callsJ (fun W => VAt w W br lf wt tr ∧ SnSl W (.slice (some ⟨w.heap.size + 1 + 1, 0, none⟩) 4 4) [a, b, X, X]) ⟨⟨by (repeat (first | exact Ext.refl _ | apply Ext.drew_left | apply Ext.drew | apply Ext.alloc)), by go_simp, by go_simp, by go_simp, by go_simp, ?_⟩, ?_⟩ ?_
  · have h := heap_alloc_new (w.alloc (.cells #[.int .i64 br, .int .i64 lf, .int .i64 wt, .int .i64 tr] 44)) (.cells #[.int .i64 0, .string ⟨#[]⟩, .string ⟨#[]⟩, .bool false] 46)
    rw [World.size_alloc] at h
    refine Eq.trans ?_ h
    exact (Below.heap_alloc _ _ _ (by simp))
  · refine ⟨_, 4, rfl, by simp, by simp, fun _ => ⟨_, 0, rfl, fun i hi => ?_⟩⟩
    have hxx : Ext w (((w.alloc (.cells #[.int .i64 br, .int .i64 lf, .int .i64 wt, .int .i64 tr] 44)).alloc (.cells #[.int .i64 0, .string ⟨#[]⟩, .string ⟨#[]⟩, .bool false] 46)).alloc (.cells #[.slice xa a.length xc, .slice ya b.length yc, .slice za X.length zc, .slice za X.length zc] 22)) := by (repeat (first | exact Ext.refl _ | apply Ext.drew_left | apply Ext.drew | apply Ext.alloc))
    match i, hi with
    | 0, _ => exact ⟨.slice xa a.length xc, by go_simp, HS.out.1.ext hxx⟩
    | 1, _ => exact ⟨.slice ya b.length yc, by go_simp, HS.out.2.1.ext hxx⟩
    | 2, _ => exact ⟨.slice za X.length zc, by go_simp, HS.out.2.2.ext hxx⟩
    | 3, _ => exact ⟨.slice za X.length zc, by go_simp, HS.out.2.2.ext hxx⟩
  rintro W1 ⟨hv1, hsn⟩
  have HV1 := hid_mk hv1
  refine (gcheck_any br lf wt tr rf _ _ hsn).mono ?_
  rintro e W2 ⟨rfl, hx2⟩
  rw [HG.out]
  have HV2 := hid_mk (HV1.out.ext hx2)
  clear hv1 hsn hx2 HV1
  go_wp2_with fail
  refine (mMax_any a b _ _ (HS.out.1.ext HV2.out.x) (HS.out.2.1.ext HV2.out.x) (by have := HL.out.1; omega) (by have := HL.out.2.1; omega)).mono ?_
  rintro e W3 ⟨mv, rfl, ho, hx3⟩
  have HV3 := hid_mk (HV2.out.ext hx3)
  have hml : (maxR a b).length ≤ 600 := by
    unfold maxR
    split
    · rw [List.length_map]
      have := prs_len a b
      have := HL.out
      omega
    · simp
  have HO := hid_mk (ho.sl (by omega))
  obtain ⟨mx, hmx⟩ : ∃ mx, maxR a b = mx := ⟨_, rfl⟩
  rw [hmx] at HO hml HA ho
  obtain ⟨ma, mc, rfl⟩ := own_form ho
  clear hx3 ho HV2 hmx
  go_wp2_with fail
  refine (alike_any X mx _ _ (HS.out.2.2.ext HV3.out.x) HO.out (by have := HL.out.2.2; omega) (by omega)).mono ?_
  rintro e W4 ⟨rfl, hx4⟩
  rw [HA.out]
  have HV4 := hid_mk (HV3.out.ext hx4)
  have HO4 := hid_mk (HO.out.ext hx4)
  clear hx4 HV3
  go_wp2_with fail
  refine (alike_any X mx _ _ (HS.out.2.2.ext HV4.out.x) HO4.out (by have := HL.out.2.2; omega) (by omega)).mono ?_
  rintro e W5 ⟨rfl, hx5⟩
  rw [HA.out]
  have HV5 := hid_mk (HV4.out.ext hx5)
  clear hx5 HV4
  have hb5 := HV5.out.v
  have v0 : W5.cell? ⟨w.heap.size + 1, 0, none⟩ = some (.int .i64 0) := by simp [World.cell?, hb5]
  have v1 : W5.cell? ⟨w.heap.size + 1, 1, none⟩ = some (.string ⟨#[]⟩) := by simp [World.cell?, hb5]
  have v2 : W5.cell? ⟨w.heap.size + 1, 2, none⟩ = some (.string ⟨#[]⟩) := by simp [World.cell?, hb5]
  have v3 : W5.cell? ⟨w.heap.size + 1, 3, none⟩ = some (.bool false) := by simp [World.cell?, hb5]
  have f0 : W5.frozen? ⟨w.heap.size + 1, 0, none⟩ = false := by simp [World.frozen?, hb5]
  have f1 : W5.frozen? ⟨w.heap.size + 1, 1, none⟩ = false := by simp [World.frozen?, hb5]
  have f2 : W5.frozen? ⟨w.heap.size + 1, 2, none⟩ = false := by simp [World.frozen?, hb5]
  have f3 : W5.frozen? ⟨w.heap.size + 1, 3, none⟩ = false := by simp [World.frozen?, hb5]
  have vl := cell_lt v0
  clear hb5
  go_wp2
  refine bodyPost_ret (v := .tuple #[verV 1, .int .i64 0]) (by unfold results; rw [Tryd.results14]; go_simp; first | done | rfl) rfl ⟨rfl, ?_⟩
  exact Xl.ext HV5.out.x (L := [w.heap.size + 1]) (((((Xl.refl W5).set (by simp)).set (by simp)).set (by simp)).set (by simp)) (by simp)
/-- What the document's Judge lays for itself first. -/
structure NAt (w W : World) (b l wt tr : Int) : Prop where
  h : VAt w W b l wt tr
  n0 : W.cell? ⟨w.heap.size + 1 + 1, 0, none⟩ = some (.int .i64 0)
  n1 : W.cell? ⟨w.heap.size + 1 + 1, 1, none⟩ = some (.string ⟨#[]⟩)
  n2 : W.cell? ⟨w.heap.size + 1 + 1, 2, none⟩ = some (.string ⟨#[]⟩)
  n3 : W.cell? ⟨w.heap.size + 1 + 1, 3, none⟩ = some (.bool false)
theorem NAt.ext {w W W' : World} {b l wt tr : Int} (h : NAt w W b l wt tr) (hx : Ext W W') : NAt w W' b l wt tr :=
  ⟨h.h.ext hx, cell_ext hx h.n0, cell_ext hx h.n1, cell_ext hx h.n2, cell_ext hx h.n3⟩
theorem gChk_fst {x : List Ent} {S : List (List Ent)} {b l r : Int} : gChk (x :: S) b l r = if heldE x ≠ 0 then heldE x else gChk S b l r := by
  unfold gChk
  by_cases h : heldE x = 0 <;> simp [List.find?_cons, h]
theorem rjudge_any {w : World} (a b X : List Ent) (av bv xv : Value) (br lf wt tr rf : Int) (ha : EntSl w av a) (hb : EntSl w bv b) (hx : EntSl w xv X) (hX : heldE a = 0 → heldE b = 0 → rmaxR a b = X) :
    Calls Tryd.prog 15 #[av, bv, xv, xv, cfgV br lf wt tr, .int .i64 rf] w fun e w' => e = .returned (.tuple #[verV (if gChk [a, b, X, X] br lf rf = 0 then 1 else 0), .int .i64 (gChk [a, b, X, X] br lf rf)]) ∧ Ext w w' := by
  have HS := hid_mk (And.intro ha (And.intro hb hx))
  have HX := hid_mk hX
  obtain ⟨g, hg⟩ : ∃ g, gChk [a, b, X, X] br lf rf = g := ⟨_, rfl⟩
  have HG := hid_mk hg
  rw [hg]
  obtain ⟨xa, xc, rfl, -⟩ := ha
  obtain ⟨ya, yc, rfl, -⟩ := hb
  obtain ⟨za, zc, rfl, -⟩ := hx
  clear hX hg
  go_enter Tryd.func15, Tryd.ntmps15
  go_wp2_with fail
  refine gen_callsJ (fun W => NAt w W br lf wt tr) ⟨⟨by (repeat (first | exact Ext.refl _ | apply Ext.drew_left | apply Ext.drew | apply Ext.alloc)), by go_simp, by go_simp, by go_simp, by go_simp, ?_⟩, by go_simp, by go_simp, by go_simp, by go_simp⟩ ?_
  · have h := heap_alloc_new (w.alloc (.cells #[.int .i64 br, .int .i64 lf, .int .i64 wt, .int .i64 tr] 44)) (.cells #[.int .i64 0, .string ⟨#[]⟩, .string ⟨#[]⟩, .bool false] 46)
    rw [World.size_alloc] at h
    refine Eq.trans ?_ h
    exact (Below.heap_alloc _ _ _ (by simp))
  rintro W1 hn1
  have HNW1 := hid_mk hn1
  clear hn1
  obtain ⟨z1, hz1⟩ : ∃ z, heldE a = z := ⟨_, rfl⟩
  have Hz1 := hid_mk hz1
  refine (rfheld_any _ a (HS.out.1.ext HNW1.out.h.x)).mono ?_
  rintro e W2 ⟨rfl, hx⟩
  rw [hz1]
  have HNW2 := hid_mk (HNW1.out.ext hx)
  clear hx hz1
  by_cases h1 : z1 = 0
  · subst h1
    go_wp2_with fail
    obtain ⟨z2, hz2⟩ : ∃ z, heldE b = z := ⟨_, rfl⟩
    have Hz2 := hid_mk hz2
    refine (rfheld_any _ b (HS.out.2.1.ext HNW2.out.h.x)).mono ?_
    rintro e W3 ⟨rfl, hx⟩
    rw [hz2]
    have HNW3 := hid_mk (HNW2.out.ext hx)
    clear hx hz2
    by_cases h2 : z2 = 0
    · subst h2
      have HX2 := hid_mk (HX.out Hz1.out Hz2.out)
      go_wp2_with fail
      obtain ⟨z3, hz3⟩ : ∃ z, heldE X = z := ⟨_, rfl⟩
      have Hz3 := hid_mk hz3
      refine (rfheld_any _ X (HS.out.2.2.ext HNW3.out.h.x)).mono ?_
      rintro e W4 ⟨rfl, hx⟩
      rw [hz3]
      have HNW4 := hid_mk (HNW3.out.ext hx)
      clear hx hz3
      by_cases h3 : z3 = 0
      · subst h3
        go_wp2_with fail
        refine (rfheld_any _ X (HS.out.2.2.ext HNW4.out.h.x)).mono ?_
        rintro e W5 ⟨rfl, hx⟩
        rw [Hz3.out]
        have HNW5 := hid_mk (HNW4.out.ext hx)
        clear hx
        have c0 := HNW5.out.h.c0
        have c1 := HNW5.out.h.c1
        have cl := cell_lt c0
        go_wp2_with fail
        refine (rright_any br lf _).mono ?_
        rintro e W6 ⟨rfl, hx⟩
        have HNW6 := hid_mk (HNW5.out.ext hx)
        obtain ⟨rb, hrb⟩ : ∃ rb, rightB br lf = rb := ⟨_, rfl⟩
        have HRB := hid_mk hrb
        rw [hrb]
        clear hx hrb c0 c1 cl
        have HGG := hid_mk (show g = if rb = true ∧ 0 ≤ rf then 0 else 1 by
          rw [← HG.out, gChk_none, HRB.out]
          intro x hx
          simp at hx
          rcases hx with rfl | rfl | rfl
          · exact Hz1.out
          · exact Hz2.out
          · exact Hz3.out)
        cases rb with
        | false =>
          obtain rfl : g = 1 := by rw [HGG.out, if_neg (by simp)]
          have hb5 := HNW6.out.h.v
          have v0 : W6.cell? ⟨w.heap.size + 1, 0, none⟩ = some (.int .i64 0) := by simp [World.cell?, hb5]
          have v1 : W6.cell? ⟨w.heap.size + 1, 1, none⟩ = some (.string ⟨#[]⟩) := by simp [World.cell?, hb5]
          have v2 : W6.cell? ⟨w.heap.size + 1, 2, none⟩ = some (.string ⟨#[]⟩) := by simp [World.cell?, hb5]
          have v3 : W6.cell? ⟨w.heap.size + 1, 3, none⟩ = some (.bool false) := by simp [World.cell?, hb5]
          have f0 : W6.frozen? ⟨w.heap.size + 1, 0, none⟩ = false := by simp [World.frozen?, hb5]
          have f1 : W6.frozen? ⟨w.heap.size + 1, 1, none⟩ = false := by simp [World.frozen?, hb5]
          have f2 : W6.frozen? ⟨w.heap.size + 1, 2, none⟩ = false := by simp [World.frozen?, hb5]
          have f3 : W6.frozen? ⟨w.heap.size + 1, 3, none⟩ = false := by simp [World.frozen?, hb5]
          have m0 := HNW6.out.n0
          have m1 := HNW6.out.n1
          have m2 := HNW6.out.n2
          have m3 := HNW6.out.n3
          have vl := cell_lt v0
          have nl := cell_lt m0
          clear hb5
          go_wp2
          refine bodyPost_ret (v := .tuple #[verV 0, .int .i64 1]) (by unfold results; rw [Tryd.results15]; go_simp; first | done | rfl) rfl ⟨by simp, ?_⟩
          exact Xl.ext HNW6.out.h.x (L := [w.heap.size + 1]) (((((Xl.refl W6).set (by simp)).set (by simp)).set (by simp)).set (by simp)) (by simp)
        | true =>
          by_cases hrf : rf < 0
          · obtain rfl : g = 1 := by rw [HGG.out, if_neg (by omega)]
            have hb5 := HNW6.out.h.v
            have v0 : W6.cell? ⟨w.heap.size + 1, 0, none⟩ = some (.int .i64 0) := by simp [World.cell?, hb5]
            have v1 : W6.cell? ⟨w.heap.size + 1, 1, none⟩ = some (.string ⟨#[]⟩) := by simp [World.cell?, hb5]
            have v2 : W6.cell? ⟨w.heap.size + 1, 2, none⟩ = some (.string ⟨#[]⟩) := by simp [World.cell?, hb5]
            have v3 : W6.cell? ⟨w.heap.size + 1, 3, none⟩ = some (.bool false) := by simp [World.cell?, hb5]
            have f0 : W6.frozen? ⟨w.heap.size + 1, 0, none⟩ = false := by simp [World.frozen?, hb5]
            have f1 : W6.frozen? ⟨w.heap.size + 1, 1, none⟩ = false := by simp [World.frozen?, hb5]
            have f2 : W6.frozen? ⟨w.heap.size + 1, 2, none⟩ = false := by simp [World.frozen?, hb5]
            have f3 : W6.frozen? ⟨w.heap.size + 1, 3, none⟩ = false := by simp [World.frozen?, hb5]
            have m0 := HNW6.out.n0
            have m1 := HNW6.out.n1
            have m2 := HNW6.out.n2
            have m3 := HNW6.out.n3
            have vl := cell_lt v0
            have nl := cell_lt m0
            clear hb5
            go_wp2
            refine bodyPost_ret (v := .tuple #[verV 0, .int .i64 1]) (by unfold results; rw [Tryd.results15]; go_simp; first | done | rfl) rfl ⟨by simp, ?_⟩
            exact Xl.ext HNW6.out.h.x (L := [w.heap.size + 1]) (((((Xl.refl W6).set (by simp)).set (by simp)).set (by simp)).set (by simp)) (by simp)
          · have hrf' : ¬ rf < 0 := hrf
            obtain rfl : g = 0 := by rw [HGG.out, if_pos ⟨rfl, by omega⟩]
            have HL := hid_mk (And.intro (heldE_zero Hz1.out).2 (And.intro (heldE_zero Hz2.out).2 (heldE_zero Hz3.out).2))
            go_wp2_with fail
            refine (r9Max_any a b _ _ (HS.out.1.ext HNW6.out.h.x) (HS.out.2.1.ext HNW6.out.h.x) (by have := HL.out.1; omega) (by have := HL.out.2.1; omega)).mono ?_
            rintro e W7 ⟨mv, rfl, ho, hx⟩
            rw [HX2.out] at ho
            have HNW7 := hid_mk (HNW6.out.ext hx)
            have HO := hid_mk (ho.sl (by have := HL.out.2.2; omega))
            obtain ⟨ma, mc, rfl⟩ := own_form ho
            clear hx ho
            have hqq : chk2 X X = 0 → ∀ p ∈ prs X X, vEq p = true := fun _ p hp => by
              rw [prs_self] at hp
              obtain ⟨x, -, rfl⟩ := List.mem_map.1 hp
              simp [vEq]
            have HQQ := hid_mk hqq
            clear hqq
            go_wp2_with fail
            refine (ralike_eq X X _ _ (HS.out.2.2.ext HNW7.out.h.x) HO.out (by have := HL.out.2.2; omega) (by have := HL.out.2.2; omega) HQQ.out).mono ?_
            rintro e W8 ⟨rfl, hx⟩
            have HNW8 := hid_mk (HNW7.out.ext hx)
            have HO8 := hid_mk (HO.out.ext hx)
            clear hx
            go_wp2_with fail
            refine (ralike_eq X X _ _ (HS.out.2.2.ext HNW8.out.h.x) HO8.out (by have := HL.out.2.2; omega) (by have := HL.out.2.2; omega) HQQ.out).mono ?_
            rintro e W9 ⟨rfl, hx⟩
            have HNW9 := hid_mk (HNW8.out.ext hx)
            clear hx
            have hb5 := HNW9.out.h.v
            have v0 : W9.cell? ⟨w.heap.size + 1, 0, none⟩ = some (.int .i64 0) := by simp [World.cell?, hb5]
            have v1 : W9.cell? ⟨w.heap.size + 1, 1, none⟩ = some (.string ⟨#[]⟩) := by simp [World.cell?, hb5]
            have v2 : W9.cell? ⟨w.heap.size + 1, 2, none⟩ = some (.string ⟨#[]⟩) := by simp [World.cell?, hb5]
            have v3 : W9.cell? ⟨w.heap.size + 1, 3, none⟩ = some (.bool false) := by simp [World.cell?, hb5]
            have f0 : W9.frozen? ⟨w.heap.size + 1, 0, none⟩ = false := by simp [World.frozen?, hb5]
            have f1 : W9.frozen? ⟨w.heap.size + 1, 1, none⟩ = false := by simp [World.frozen?, hb5]
            have f2 : W9.frozen? ⟨w.heap.size + 1, 2, none⟩ = false := by simp [World.frozen?, hb5]
            have f3 : W9.frozen? ⟨w.heap.size + 1, 3, none⟩ = false := by simp [World.frozen?, hb5]
            have m0 := HNW9.out.n0
            have m1 := HNW9.out.n1
            have m2 := HNW9.out.n2
            have m3 := HNW9.out.n3
            have vl := cell_lt v0
            have nl := cell_lt m0
            clear hb5
            go_wp2
            refine bodyPost_ret (v := .tuple #[verV 1, .int .i64 0]) (by unfold results; rw [Tryd.results15]; go_simp; first | done | rfl) rfl ⟨by simp, ?_⟩
            exact Xl.ext HNW9.out.h.x (L := [w.heap.size + 1]) (((((Xl.refl W9).set (by simp)).set (by simp)).set (by simp)).set (by simp)) (by simp)
      · have hb : (z3 == 0) = false := by rw [beq_eq_false_iff_ne]; exact h3
        obtain rfl : z3 = g := by rw [← HG.out, gChk_fst, Hz1.out, if_neg (by simp), gChk_fst, Hz2.out, if_neg (by simp), gChk_fst, Hz3.out, if_pos h3]
        have hb5 := HNW4.out.h.v
        have v0 : W4.cell? ⟨w.heap.size + 1, 0, none⟩ = some (.int .i64 0) := by simp [World.cell?, hb5]
        have v1 : W4.cell? ⟨w.heap.size + 1, 1, none⟩ = some (.string ⟨#[]⟩) := by simp [World.cell?, hb5]
        have v2 : W4.cell? ⟨w.heap.size + 1, 2, none⟩ = some (.string ⟨#[]⟩) := by simp [World.cell?, hb5]
        have v3 : W4.cell? ⟨w.heap.size + 1, 3, none⟩ = some (.bool false) := by simp [World.cell?, hb5]
        have f0 : W4.frozen? ⟨w.heap.size + 1, 0, none⟩ = false := by simp [World.frozen?, hb5]
        have f1 : W4.frozen? ⟨w.heap.size + 1, 1, none⟩ = false := by simp [World.frozen?, hb5]
        have f2 : W4.frozen? ⟨w.heap.size + 1, 2, none⟩ = false := by simp [World.frozen?, hb5]
        have f3 : W4.frozen? ⟨w.heap.size + 1, 3, none⟩ = false := by simp [World.frozen?, hb5]
        have m0 := HNW4.out.n0
        have m1 := HNW4.out.n1
        have m2 := HNW4.out.n2
        have m3 := HNW4.out.n3
        have vl := cell_lt v0
        have nl := cell_lt m0
        clear hb5
        go_wp2
        refine bodyPost_ret (v := .tuple #[verV 0, .int .i64 z3]) (by unfold results; rw [Tryd.results15]; go_simp; first | done | rfl) rfl ⟨rfl, ?_⟩
        exact Xl.ext HNW4.out.h.x (L := [w.heap.size + 1]) (((((Xl.refl W4).set (by simp)).set (by simp)).set (by simp)).set (by simp)) (by simp)
    · have hb : (z2 == 0) = false := by rw [beq_eq_false_iff_ne]; exact h2
      obtain rfl : z2 = g := by rw [← HG.out, gChk_fst, Hz1.out, if_neg (by simp), gChk_fst, Hz2.out, if_pos h2]
      have hb5 := HNW3.out.h.v
      have v0 : W3.cell? ⟨w.heap.size + 1, 0, none⟩ = some (.int .i64 0) := by simp [World.cell?, hb5]
      have v1 : W3.cell? ⟨w.heap.size + 1, 1, none⟩ = some (.string ⟨#[]⟩) := by simp [World.cell?, hb5]
      have v2 : W3.cell? ⟨w.heap.size + 1, 2, none⟩ = some (.string ⟨#[]⟩) := by simp [World.cell?, hb5]
      have v3 : W3.cell? ⟨w.heap.size + 1, 3, none⟩ = some (.bool false) := by simp [World.cell?, hb5]
      have f0 : W3.frozen? ⟨w.heap.size + 1, 0, none⟩ = false := by simp [World.frozen?, hb5]
      have f1 : W3.frozen? ⟨w.heap.size + 1, 1, none⟩ = false := by simp [World.frozen?, hb5]
      have f2 : W3.frozen? ⟨w.heap.size + 1, 2, none⟩ = false := by simp [World.frozen?, hb5]
      have f3 : W3.frozen? ⟨w.heap.size + 1, 3, none⟩ = false := by simp [World.frozen?, hb5]
      have m0 := HNW3.out.n0
      have m1 := HNW3.out.n1
      have m2 := HNW3.out.n2
      have m3 := HNW3.out.n3
      have vl := cell_lt v0
      have nl := cell_lt m0
      clear hb5
      go_wp2
      refine bodyPost_ret (v := .tuple #[verV 0, .int .i64 z2]) (by unfold results; rw [Tryd.results15]; go_simp; first | done | rfl) rfl ⟨rfl, ?_⟩
      exact Xl.ext HNW3.out.h.x (L := [w.heap.size + 1]) (((((Xl.refl W3).set (by simp)).set (by simp)).set (by simp)).set (by simp)) (by simp)
  · have hb : (z1 == 0) = false := by rw [beq_eq_false_iff_ne]; exact h1
    obtain rfl : z1 = g := by rw [← HG.out, gChk_fst, Hz1.out, if_pos h1]
    have hb5 := HNW2.out.h.v
    have v0 : W2.cell? ⟨w.heap.size + 1, 0, none⟩ = some (.int .i64 0) := by simp [World.cell?, hb5]
    have v1 : W2.cell? ⟨w.heap.size + 1, 1, none⟩ = some (.string ⟨#[]⟩) := by simp [World.cell?, hb5]
    have v2 : W2.cell? ⟨w.heap.size + 1, 2, none⟩ = some (.string ⟨#[]⟩) := by simp [World.cell?, hb5]
    have v3 : W2.cell? ⟨w.heap.size + 1, 3, none⟩ = some (.bool false) := by simp [World.cell?, hb5]
    have f0 : W2.frozen? ⟨w.heap.size + 1, 0, none⟩ = false := by simp [World.frozen?, hb5]
    have f1 : W2.frozen? ⟨w.heap.size + 1, 1, none⟩ = false := by simp [World.frozen?, hb5]
    have f2 : W2.frozen? ⟨w.heap.size + 1, 2, none⟩ = false := by simp [World.frozen?, hb5]
    have f3 : W2.frozen? ⟨w.heap.size + 1, 3, none⟩ = false := by simp [World.frozen?, hb5]
    have m0 := HNW2.out.n0
    have m1 := HNW2.out.n1
    have m2 := HNW2.out.n2
    have m3 := HNW2.out.n3
    have vl := cell_lt v0
    have nl := cell_lt m0
    clear hb5
    go_wp2
    refine bodyPost_ret (v := .tuple #[verV 0, .int .i64 z1]) (by unfold results; rw [Tryd.results15]; go_simp; first | done | rfl) rfl ⟨rfl, ?_⟩
    exact Xl.ext HNW2.out.h.x (L := [w.heap.size + 1]) (((((Xl.refl W2).set (by simp)).set (by simp)).set (by simp)).set (by simp)) (by simp)
end Go.Proofs.YtiimoaplhhnklaaDoor
namespace Go.Proofs.YtiimoaplhhnklaaDoor
open Go.RowKit
set_option maxHeartbeats 4000000
set_option maxRecDepth 100000
set_option linter.unusedSimpArgs false
set_option linter.unusedVariables false

theorem mChkP_all : ∀ (l : List Ent) (p : Option ByteArray), mChkP p l = 0 → ∀ x ∈ l, eChk x = 0
  | [], _, _, x, h => by cases h
  | e :: r, p, h, x, hx => by
    unfold mChkP at h
    split at h
    · rename_i h1
      exact absurd h h1
    · rename_i h1
      split at h
      · cases h
      · rcases List.mem_cons.1 hx with rfl | hx
        · exact Classical.byContradiction h1
        · exact mChkP_all r _ h x hx
theorem eChk_ctr {e : Ent} (h : eChk e = 0) : 1 ≤ e.ctr := by
  have hv : verCheck e.ctr e.node = 0 := by
    apply Classical.byContradiction
    intro hv
    unfold eChk entCheck at h
    split at h
    · cases h
    · first | (rw [if_pos hv] at h; cases h) | cases h
  unfold verCheck at hv
  split at hv
  · rename_i h1
    exact h1.1
  · cases hv
theorem chk2_zero {a b : List Ent} (h : chk2 a b = 0) : mChk a = 0 ∧ mChk b = 0 := by
  unfold chk2 at h
  split at h
  · rename_i h1
    exact absurd h h1
  · rename_i h1
    exact ⟨Classical.byContradiction h1, h⟩
theorem chk2_of {a b : List Ent} (h : mChk a = 0) (h' : mChk b = 0) : chk2 a b = 0 := by unfold chk2; rw [if_neg (fun e => e h), h']
theorem prs_mem : ∀ (a b : List Ent), ∀ p ∈ prs a b, (p.1 ∈ a ∧ p.2 = zE) ∨ (p.1 = zE ∧ p.2 ∈ b) ∨ (p.1 ∈ a ∧ p.2 ∈ b ∧ p.1.key = p.2.key)
  | [], [], p, h => by rw [prs_nn] at h; cases h
  | x :: a, [], p, h => by
    rw [prs_cn] at h
    rcases List.mem_cons.1 h with rfl | h
    · exact .inl ⟨List.mem_cons_self, rfl⟩
    · rcases prs_mem a [] p h with ⟨h1, h2⟩ | ⟨h1, h2⟩ | ⟨h1, h2, h3⟩
      · exact .inl ⟨List.mem_cons_of_mem _ h1, h2⟩
      · cases h2
      · cases h2
  | [], y :: b, p, h => by
    rw [prs_nc] at h
    rcases List.mem_cons.1 h with rfl | h
    · exact .inr (.inl ⟨rfl, List.mem_cons_self⟩)
    · rcases prs_mem [] b p h with ⟨h1, h2⟩ | ⟨h1, h2⟩ | ⟨h1, h2, h3⟩
      · cases h1
      · exact .inr (.inl ⟨h1, List.mem_cons_of_mem _ h2⟩)
      · cases h1
  | x :: a, y :: b, p, h => by
    rcases h1 : Op.bytesLess x.key.toList y.key.toList with _ | _
    · rcases h2 : Op.bytesLess y.key.toList x.key.toList with _ | _
      · rw [prs_eq h1 h2] at h
        rcases List.mem_cons.1 h with rfl | h
        · exact .inr (.inr ⟨List.mem_cons_self, List.mem_cons_self, ba_ext (bl_eq h1 h2)⟩)
        · rcases prs_mem a b p h with ⟨h3, h4⟩ | ⟨h3, h4⟩ | ⟨h3, h4, h5⟩
          · exact .inl ⟨List.mem_cons_of_mem _ h3, h4⟩
          · exact .inr (.inl ⟨h3, List.mem_cons_of_mem _ h4⟩)
          · exact .inr (.inr ⟨List.mem_cons_of_mem _ h3, List.mem_cons_of_mem _ h4, h5⟩)
      · rw [prs_gt h1 h2] at h
        rcases List.mem_cons.1 h with rfl | h
        · exact .inr (.inl ⟨rfl, List.mem_cons_self⟩)
        · rcases prs_mem (x :: a) b p h with ⟨h3, h4⟩ | ⟨h3, h4⟩ | ⟨h3, h4, h5⟩
          · exact .inl ⟨h3, h4⟩
          · exact .inr (.inl ⟨h3, List.mem_cons_of_mem _ h4⟩)
          · exact .inr (.inr ⟨h3, List.mem_cons_of_mem _ h4, h5⟩)
    · rw [prs_lt h1] at h
      rcases List.mem_cons.1 h with rfl | h
      · exact .inl ⟨List.mem_cons_self, rfl⟩
      · rcases prs_mem a (y :: b) p h with ⟨h3, h4⟩ | ⟨h3, h4⟩ | ⟨h3, h4, h5⟩
        · exact .inl ⟨List.mem_cons_of_mem _ h3, h4⟩
        · exact .inr (.inl ⟨h3, h4⟩)
        · exact .inr (.inr ⟨List.mem_cons_of_mem _ h3, h4, h5⟩)
termination_by a b => a.length + b.length
theorem bestE_self (y : Ent) : bestE y y = y := by unfold bestE; split <;> rfl
theorem there_ctr {x : Ent} (h : 1 ≤ x.ctr) : thereE x = true := by
  unfold thereE
  rw [decide_eq_false (show ¬ x.ctr = 0 by omega)]
  rfl
theorem there_zE : thereE zE = false := by decide
theorem newer_iff (a b : Ent) : newer a b = true ↔ b.ctr < a.ctr ∨ (a.ctr = b.ctr ∧ b.node < a.node) := by
  unfold newer cmpV
  simp only [decide_eq_true_eq, firstNZ, cmpI]
  (repeat' split) <;> (constructor <;> intro h <;> first | omega | (simp at * <;> omega))
/-- The shapes that a pair of two lists that may be has. -/
def OkP (p : Ent × Ent) : Prop := (1 ≤ p.1.ctr ∧ p.2 = zE) ∨ (p.1 = zE ∧ 1 ≤ p.2.ctr) ∨ (1 ≤ p.1.ctr ∧ 1 ≤ p.2.ctr ∧ p.1.key = p.2.key)
theorem okP {a b : List Ent} (h : chk2 a b = 0) : ∀ p ∈ prs a b, OkP p := fun p hp => by
  obtain ⟨ha, hb⟩ := chk2_zero h
  rcases prs_mem a b p hp with ⟨h1, h2⟩ | ⟨h1, h2⟩ | ⟨h1, h2, h3⟩
  · exact .inl ⟨eChk_ctr (mChkP_all _ _ ha _ h1), h2⟩
  · exact .inr (.inl ⟨h1, eChk_ctr (mChkP_all _ _ hb _ h2)⟩)
  · exact .inr (.inr ⟨eChk_ctr (mChkP_all _ _ ha _ h1), eChk_ctr (mChkP_all _ _ hb _ h2), h3⟩)
theorem mBest_l {x : Ent} (h : 1 ≤ x.ctr) : mBest (x, zE) = x := by
  unfold mBest bestE
  rw [if_pos (there_ctr h), if_neg]
  intro h1
  rw [newer_iff] at h1
  have : zE.ctr = 0 := rfl
  dsimp only at h1
  omega
theorem mBest_r {y : Ent} : mBest (zE, y) = y := by
  unfold mBest
  rw [if_neg (by rw [there_zE]; simp), bestE_self]
theorem mBest_b {x y : Ent} (h : 1 ≤ x.ctr) : mBest (x, y) = bestE x y := by
  unfold mBest
  rw [if_pos (there_ctr h)]
theorem rBest_eq {p : Ent × Ent} (h : OkP p) : rBest p = mBest p := by
  obtain ⟨x, y⟩ := p
  rcases h with ⟨h1, h2⟩ | ⟨h1, h2⟩ | ⟨h1, h2, h3⟩
  · unfold rBest mBest
    dsimp only at *
    rw [if_neg (by omega), if_pos (there_ctr h1)]
  · dsimp only at *
    subst h1
    rw [mBest_r]
    rfl
  · dsimp only at *
    rw [mBest_b h1]
    unfold rBest
    rw [if_neg (by dsimp only; omega)]
theorem rmaxR_eq (a b : List Ent) : rmaxR a b = maxR a b := by
  unfold rmaxR maxR
  split
  · rename_i h
    exact List.map_congr_left fun p hp => rBest_eq (okP h p hp)
  · rfl
theorem prs_zip : ∀ (L : List (Ent × Ent)), (∀ q ∈ L, q.1.key = q.2.key) → prs (L.map Prod.fst) (L.map Prod.snd) = L
  | [], _ => by rw [List.map_nil, List.map_nil, prs_nn]
  | (x, y) :: L, h => by
    have hk : x.key = y.key := h (x, y) List.mem_cons_self
    rw [List.map_cons, List.map_cons, prs_eq (by dsimp only; rw [hk, bl_irrefl]) (by dsimp only; rw [hk, bl_irrefl]), prs_zip L fun q hq => h q (List.mem_cons_of_mem _ hq)]
theorem mBest_swap {p : Ent × Ent} (h : OkP p) : (mBest p).key = (mBest (p.2, p.1)).key ∧ vEq (mBest p, mBest (p.2, p.1)) = true := by
  obtain ⟨x, y⟩ := p
  rcases h with ⟨h1, h2⟩ | ⟨h1, h2⟩ | ⟨h1, h2, h3⟩
  · dsimp only at *
    subst h2
    rw [mBest_l h1, mBest_r]
    exact ⟨rfl, by simp [vEq]⟩
  · dsimp only at *
    subst h1
    rw [mBest_l h2, mBest_r]
    exact ⟨rfl, by simp [vEq]⟩
  · dsimp only at *
    rw [mBest_b h1, mBest_b h2]
    unfold bestE vEq
    have e1 := newer_iff x y
    have e2 := newer_iff y x
    by_cases h4 : newer y x = true <;> by_cases h5 : newer x y = true
    · rw [e1] at h5; rw [e2] at h4; omega
    · rw [if_pos h4, if_neg h5]; exact ⟨rfl, by simp⟩
    · rw [if_neg h4, if_pos h5]; exact ⟨rfl, by simp⟩
    · rw [if_neg h4, if_neg h5]
      rw [e1] at h5; rw [e2] at h4
      exact ⟨h3, decide_eq_true (by dsimp only; omega)⟩
theorem alikeB_self (X : List Ent) : alikeB X X = true := by
  unfold alikeB
  rw [difR_nil fun _ p hp => by
    rw [prs_self] at hp
    obtain ⟨x, -, rfl⟩ := List.mem_map.1 hp
    simp [vEq]]
  rfl
theorem alikeB_swap (a b : List Ent) : alikeB (maxR a b) (maxR b a) = true := by
  unfold alikeB
  rw [difR_nil fun _ => ?_]
  · rfl
  by_cases h : chk2 a b = 0
  · have h' : chk2 b a = 0 := chk2_of (chk2_zero h).2 (chk2_zero h).1
    obtain ⟨L, hL⟩ : ∃ L, (prs a b).map (fun p => (mBest p, mBest (p.2, p.1))) = L := ⟨_, rfl⟩
    have e1 : maxR a b = L.map Prod.fst := by
      unfold maxR
      rw [if_pos h, ← hL, List.map_map]
      rfl
    have e2 : maxR b a = L.map Prod.snd := by
      unfold maxR
      rw [if_pos h', ← hL, prs_swap a b, List.map_map, List.map_map]
      rfl
    rw [e1, e2, prs_zip L]
    · intro p hp
      rw [← hL] at hp
      obtain ⟨q, hq, rfl⟩ := List.mem_map.1 hp
      exact (mBest_swap (okP h q hq)).2
    · intro p hp
      rw [← hL] at hp
      obtain ⟨q, hq, rfl⟩ := List.mem_map.1 hp
      exact (mBest_swap (okP h q hq)).1
  · have h' : ¬ chk2 b a = 0 := fun e => h (chk2_of (chk2_zero e).2 (chk2_zero e).1)
    unfold maxR
    rw [if_neg h, if_neg h', prs_nn]
    intro p hp
    cases hp
theorem gChk_swap {a b X : List Ent} {br lf rf : Int} (h : gChk [a, b, X, X] br lf rf = 0) : gChk [b, a, X, X] br lf rf = 0 := by
  obtain ⟨h1, h2⟩ := gChk_zero h
  rw [gChk_none fun x hx => h1 x (by
    simp only [List.mem_cons, List.not_mem_nil, or_false] at hx ⊢
    rcases hx with h | h | h | h
    · exact .inr (.inl h)
    · exact .inl h
    · exact .inr (.inr (.inl h))
    · exact .inr (.inr (.inr h))), if_pos h2]
end Go.Proofs.YtiimoaplhhnklaaDoor
