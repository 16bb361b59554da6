/- Judging: both Twins, walked. Judging: Twins of the program. -/
import Derived.Test.YtiimoaplhhnklaaDoorMKR
namespace Go.Proofs.YtiimoaplhhnklaaDoor
open Go.RowKit Go.Lib
set_option maxHeartbeats 4000000
set_option maxRecDepth 100000
set_option linter.unusedSimpArgs false
set_option linter.unusedVariables false
attribute [-go_sem] Builtin.append_

def twinsP (a b : List Ent) (br lf : Int) : Option Rg := if gChk [a, b] br lf 0 = 0 then twinsF br lf 600 b a [⟨⟨#[]⟩, ⟨#[]⟩, true⟩] else none
abbrev twinsV (a b : List Ent) (br lf : Int) : Value := .tuple #[rgV ((twinsP a b br lf).getD zRg), .bool (twinsP a b br lf).isSome, .int .i64 (gChk [a, b] br lf 0)]
theorem gChk_nil {b l r : Int} : gChk [] b l r = if rightB b l = true ∧ 0 ≤ r then 0 else 1 := rfl
theorem mapOk_held {l : List Ent} (h : heldE l = 0) : MapOk l := ⟨(heldE_zero h).1, (heldE_zero h).2⟩
theorem wt_first {a b : List Ent} (ha : MapOk a) (hb : MapOk b) : wtL b a [⟨⟨#[]⟩, ⟨#[]⟩, true⟩] ≤ 600 := by
  refine wtL_le _ _ _ _ fun r hr => ?_
  have h1 := inF_len r.lo r.hi r.op a
  have h2 := inF_len r.lo r.hi r.op b
  have h3 := ha.n
  have h4 := hb.n
  unfold wtR inG
  omega
theorem TwAt.appG {w W Z : World} {B : Nat} {v : Value} {L : List Rg} (h : TwAt w W) (hg : W.grownBy Z v.ownBlock) (ho : OwG 26 3 cR W B v L) (hB : w.heap.size < B) : TwAt w Z := by
  refine ⟨ext_grown h.x hg ho (Nat.le_of_lt hB), (hg.block _ (Array.getElem?_eq_some_iff.1 h.b).1 (fun e => ?_)).trans h.b⟩
  have := (World.ownsRow.lt ho _ e.symm).1
  omega
theorem rTwins_any {w : World} (a b : List Ent) (av bv : Value) (br lf : Int) (ha : EntSl w av a) (hb : EntSl w bv b) :
    Calls Tryd.prog 9 #[av, bv, .int .i64 br, .int .i64 lf] w fun e w' => e = .returned (twinsV a b br lf) ∧ Ext w w' := by
  have HS := hid_mk (And.intro ha hb)
  obtain ⟨g, hg⟩ : ∃ g, gChk [a, b] br lf 0 = g := ⟨_, rfl⟩
  obtain ⟨R, hR⟩ : ∃ R, twinsP a b br lf = R := ⟨_, rfl⟩
  obtain ⟨z1, hz1⟩ : ∃ z, heldE a = z := ⟨_, rfl⟩
  obtain ⟨z2, hz2⟩ : ∃ z, heldE b = z := ⟨_, rfl⟩
  obtain ⟨rt, hrt⟩ : ∃ rt, rightB br lf = rt := ⟨_, rfl⟩
  have HZ1 := hid_mk hz1
  have HZ2 := hid_mk hz2
  have HRT := hid_mk hrt
  have HG := hid_mk (show (if z1 ≠ 0 then z1 else if z2 ≠ 0 then z2 else if rt = true then 0 else 1) = g by rw [← hg, gChk_fst, gChk_fst, gChk_nil, hz1, hz2, hrt]; cases rt <;> simp)
  have HR := hid_mk (show (if g = 0 then twinsF br lf 600 b a [⟨⟨#[]⟩, ⟨#[]⟩, true⟩] else none) = R by rw [← hR, twinsP, hg])
  rw [twinsV, hg, hR]
  obtain ⟨xa, xc, rfl, -⟩ := ha
  obtain ⟨ya, yc, rfl, -⟩ := hb
  clear hg hR hz1 hz2 hrt
  go_enter Tryd.func9, Tryd.ntmps9
  go_wp2_with fail
  refine gen_callsK (fun W => TwAt w W) ⟨by (repeat (first | exact Ext.refl _ | apply Ext.drew_left | apply Ext.drew | apply Ext.alloc)), heap_alloc_new w (.cells #[.string ⟨#[]⟩, .string ⟨#[]⟩, .bool false] 26)⟩ ?_
  intro W0 h0
  refine (rfheld_any _ a (HS.out.1.ext h0.x)).mono ?_
  rintro e W1 ⟨rfl, hx⟩
  rw [HZ1.out]
  have HA1 := hid_mk (h0.ext hx)
  clear h0 hx
  by_cases h1 : z1 = 0
  rotate_left
  · have hbz : (z1 == 0) = false := by rw [beq_eq_false_iff_ne]; exact h1
    obtain rfl : z1 = g := by rw [← HG.out, if_pos h1]
    have HRN := hid_mk (show R = none by rw [← HR.out, if_neg h1])
    have hb8 := HA1.out.b
    have y0 : W1.cell? ⟨w.heap.size, 0, none⟩ = some (.string ⟨#[]⟩) := by simp [World.cell?, hb8]
    have y1 : W1.cell? ⟨w.heap.size, 1, none⟩ = some (.string ⟨#[]⟩) := by simp [World.cell?, hb8]
    have y2 : W1.cell? ⟨w.heap.size, 2, none⟩ = some (.bool false) := by simp [World.cell?, hb8]
    have f0 : W1.frozen? ⟨w.heap.size, 0, none⟩ = false := by simp [World.frozen?, hb8]
    have f1 : W1.frozen? ⟨w.heap.size, 1, none⟩ = false := by simp [World.frozen?, hb8]
    have f2 : W1.frozen? ⟨w.heap.size, 2, none⟩ = false := by simp [World.frozen?, hb8]
    have zl := cell_lt y0
    clear hb8
    go_wp2
    refine bodyPost_ret (v := .tuple #[rgV zRg, .bool false, .int .i64 z1]) (by unfold results; rw [Tryd.results9]; go_simp; first | done | rfl) rfl ⟨by rw [HRN.out]; rfl, ?_⟩
    exact ext_set3 HA1.out.x (Nat.le_refl _) (by (repeat (first | exact Ext.refl _ | apply Ext.drew_left | apply Ext.drew | apply Ext.alloc)))
  subst h1
  go_wp2_with fail
  refine (rfheld_any _ b (HS.out.2.ext HA1.out.x)).mono ?_
  rintro e W2 ⟨rfl, hx⟩
  rw [HZ2.out]
  have HA2 := hid_mk (HA1.out.ext hx)
  clear hx HA1
  by_cases h2 : z2 = 0
  rotate_left
  · have hbz : (z2 == 0) = false := by rw [beq_eq_false_iff_ne]; exact h2
    obtain rfl : z2 = g := by rw [← HG.out, if_neg (by simp), if_pos h2]
    have HRN := hid_mk (show R = none by rw [← HR.out, if_neg h2])
    have hb8 := HA2.out.b
    have y0 : W2.cell? ⟨w.heap.size, 0, none⟩ = some (.string ⟨#[]⟩) := by simp [World.cell?, hb8]
    have y1 : W2.cell? ⟨w.heap.size, 1, none⟩ = some (.string ⟨#[]⟩) := by simp [World.cell?, hb8]
    have y2 : W2.cell? ⟨w.heap.size, 2, none⟩ = some (.bool false) := by simp [World.cell?, hb8]
    have f0 : W2.frozen? ⟨w.heap.size, 0, none⟩ = false := by simp [World.frozen?, hb8]
    have f1 : W2.frozen? ⟨w.heap.size, 1, none⟩ = false := by simp [World.frozen?, hb8]
    have f2 : W2.frozen? ⟨w.heap.size, 2, none⟩ = false := by simp [World.frozen?, hb8]
    have zl := cell_lt y0
    clear hb8
    go_wp2
    refine bodyPost_ret (v := .tuple #[rgV zRg, .bool false, .int .i64 z2]) (by unfold results; rw [Tryd.results9]; go_simp; first | done | rfl) rfl ⟨by rw [HRN.out]; rfl, ?_⟩
    exact ext_set3 HA2.out.x (Nat.le_refl _) (by (repeat (first | exact Ext.refl _ | apply Ext.drew_left | apply Ext.drew | apply Ext.alloc)))
  subst h2
  go_wp2_with fail
  refine (rright_any br lf W2).mono ?_
  rintro e W3 ⟨rfl, hx⟩
  rw [HRT.out]
  have HA3 := hid_mk (HA2.out.ext hx)
  clear hx HA2
  cases rt with
  | false =>
    obtain rfl : 1 = g := by rw [← HG.out, if_neg (by simp), if_neg (by simp), if_neg (by simp)]
    have HRN := hid_mk (show R = none by rw [← HR.out, if_neg (by omega)])
    have hb8 := HA3.out.b
    have y0 : W3.cell? ⟨w.heap.size, 0, none⟩ = some (.string ⟨#[]⟩) := by simp [World.cell?, hb8]
    have y1 : W3.cell? ⟨w.heap.size, 1, none⟩ = some (.string ⟨#[]⟩) := by simp [World.cell?, hb8]
    have y2 : W3.cell? ⟨w.heap.size, 2, none⟩ = some (.bool false) := by simp [World.cell?, hb8]
    have f0 : W3.frozen? ⟨w.heap.size, 0, none⟩ = false := by simp [World.frozen?, hb8]
    have f1 : W3.frozen? ⟨w.heap.size, 1, none⟩ = false := by simp [World.frozen?, hb8]
    have f2 : W3.frozen? ⟨w.heap.size, 2, none⟩ = false := by simp [World.frozen?, hb8]
    have zl := cell_lt y0
    clear hb8
    go_wp2
    refine bodyPost_ret (v := .tuple #[rgV zRg, .bool false, .int .i64 1]) (by unfold results; rw [Tryd.results9]; go_simp; first | done | rfl) rfl ⟨by rw [HRN.out]; rfl, ?_⟩
    exact ext_set3 HA3.out.x (Nat.le_refl _) (by (repeat (first | exact Ext.refl _ | apply Ext.drew_left | apply Ext.drew | apply Ext.alloc)))
  | true =>
    obtain rfl : 0 = g := by rw [← HG.out, if_neg (by simp), if_neg (by simp), if_pos rfl]
    rw [if_pos rfl] at HR
    have HM := hid_mk (And.intro (mapOk_held HZ1.out) (mapOk_held HZ2.out))
    have hx4 : Ext W3 (W3.alloc (.cells #[] 26)) := by (repeat (first | exact Ext.refl _ | apply Ext.drew_left | apply Ext.drew | apply Ext.alloc))
    have hx5 : Ext W3 ((W3.alloc (.cells #[] 26)).alloc (.cells #[.string ⟨#[]⟩, .string ⟨#[]⟩, .bool true] 26)) := by (repeat (first | exact Ext.refl _ | apply Ext.drew_left | apply Ext.drew | apply Ext.alloc))
    have hzl := HA3.out.x.below.size
    obtain ⟨v', w', hrun, hon, hg, hob⟩ := appendG okR (w := (W3.alloc (.cells #[] 26)).alloc (.cells #[.string ⟨#[]⟩, .string ⟨#[]⟩, .bool true] 26)) (B := W3.heap.size) (v := .slice (some ⟨W3.heap.size, 0, none⟩) 0 0) (M := []) (lv := .slice (some ⟨W3.heap.size + 1, 0, none⟩) 1 1) (L := [⟨⟨#[]⟩, ⟨#[]⟩, true⟩])
      (OwG.ext (ownG_empty (heap_alloc_new W3 (.cells #[] 26)) (Nat.le_refl _)) (by (repeat (first | exact Ext.refl _ | apply Ext.drew_left | apply Ext.drew | apply Ext.alloc)))) (gsl_rg (by go_simp) (by go_simp) (by go_simp)) (by simp) (by simp; omega)
    have HN := hid_mk (OwG.sl (k := 3) (by omega) (fun _ => rfl) hon)
    have HA5 := hid_mk (show TwAt w w' from (HA3.out.ext hx5).appG hg (OwG.ext (ownG_empty (t := 26) (k := 3) (f := cR) (heap_alloc_new W3 (.cells #[] 26)) (Nat.le_refl _)) (by (repeat (first | exact Ext.refl _ | apply Ext.drew_left | apply Ext.drew | apply Ext.alloc)))) (cell_lt (show W3.cell? ⟨w.heap.size, 0, none⟩ = some (.string ⟨#[]⟩) by simp [World.cell?, HA3.out.b])))
    obtain ⟨va, vc, hva⟩ := own_form hon
    rw [List.nil_append, List.length_singleton] at hva
    subst hva
    rw [List.nil_append] at HN
    clear hx4 hx5 hon hg hob
    go_wp2_with fail
    clear hrun HA3
    go_loopw [12, 13, 14] (fun v mv tv wr => ∃ l mine theirs f, TwAt w wr ∧ GSl cR 3 wr v l ∧ Sides (.slice xa a.length xc) (.slice ya b.length yc) mv tv a b mine theirs ∧ NowOk mine theirs l ∧ wtL mine theirs l ≤ f ∧ twinsF br lf f mine theirs l = R) (fun v _ _ wr => wtL a b (rgsOf wr v))
    case atStart => exact ⟨_, b, a, 600, HA5.out, HN.out, .inl ⟨rfl, rfl, rfl, rfl⟩, nowOk_first HM.out.2 HM.out.1, wt_first HM.out.1 HM.out.2, HR.out⟩
    case round =>
      clear HA5 HN HR
      obtain ⟨l, mine, theirs, f, ht, hn, hsd, hno, hwf, hres⟩ := hrel
      have HT := hid_mk ht
      have HN := hid_mk hn
      have HSD := hid_mk hsd
      have HNO := hid_mk hno
      have HWF := hid_mk hwf
      have HRES := hid_mk hres
      obtain ⟨la, lc, rfl, hllc, hlc⟩ := hn
      clear ht hsd hno hwf hres hlc
      by_cases hl0 : l = []
      · subst hl0
        have HRN := hid_mk (show R = none by rw [← HRES.out]; cases f <;> simp [twinsF])
        have hb8 := HT.out.b
        have y0 : wr.cell? ⟨w.heap.size, 0, none⟩ = some (.string ⟨#[]⟩) := by simp [World.cell?, hb8]
        have y1 : wr.cell? ⟨w.heap.size, 1, none⟩ = some (.string ⟨#[]⟩) := by simp [World.cell?, hb8]
        have y2 : wr.cell? ⟨w.heap.size, 2, none⟩ = some (.bool false) := by simp [World.cell?, hb8]
        have f0 : wr.frozen? ⟨w.heap.size, 0, none⟩ = false := by simp [World.frozen?, hb8]
        have f1 : wr.frozen? ⟨w.heap.size, 1, none⟩ = false := by simp [World.frozen?, hb8]
        have f2 : wr.frozen? ⟨w.heap.size, 2, none⟩ = false := by simp [World.frozen?, hb8]
        have zl := cell_lt y0
        clear hb8
        go_wp2
        refine bodyPost_ret (v := .tuple #[rgV zRg, .bool false, .int .i64 0]) (by unfold results; rw [Tryd.results9]; go_simp; first | done | rfl) rfl ⟨by rw [HRN.out]; rfl, ?_⟩
        exact ext_set3 HT.out.x (Nat.le_refl _) (by (repeat (first | exact Ext.refl _ | apply Ext.drew_left | apply Ext.drew | apply Ext.alloc)))
      · have hp : 0 < l.length := List.length_pos_iff.2 hl0
        have hp' : (0 : Int) < (l.length : Int) := by omega
        have HME := hid_mk (HSD.out.ent HS.out.1 HS.out.2)
        have HMO := hid_mk (HSD.out.ok HM.out.1 HM.out.2)
        obtain ⟨f, rfl⟩ : ∃ f', f = f' + 1 := ⟨f - 1, by
          have h1 := HWF.out
          have h2 : 0 < wtL mine theirs l := by
            cases l with
            | nil => exact absurd rfl hl0
            | cons r l => rw [wtL]; exact Nat.lt_of_lt_of_le (Nat.succ_pos _) (Nat.le_max_left _ _)
          omega⟩
        go_wp2_with fail
        refine (rTurn_any mine theirs _ _ _ l br lf (HME.out.1.ext HT.out.x) (HME.out.2.ext HT.out.x) HN.out HMO.out.1 HMO.out.2 HRT.out HNO.out).mono ?_
        rintro e W7 ⟨tv, rfl, hnx, hx⟩
        have HT7 := hid_mk (HT.out.ext hx)
        have HNX := hid_mk hnx
        obtain ⟨F, hF⟩ : ∃ F, l.find? (hitR mine theirs) = F := ⟨_, rfl⟩
        have HF := hid_mk hF
        rw [hF]
        clear hnx hx hF
        cases F with
        | some r =>
          have HRN := hid_mk (show R = some r by rw [← HRES.out, twinsF, if_neg hl0, HF.out])
          simp only [Option.getD_some, Option.isSome_some]
          have hb8 := HT7.out.b
          have y0 : W7.cell? ⟨w.heap.size, 0, none⟩ = some (.string ⟨#[]⟩) := by simp [World.cell?, hb8]
          have y1 : W7.cell? ⟨w.heap.size, 1, none⟩ = some (.string ⟨#[]⟩) := by simp [World.cell?, hb8]
          have y2 : W7.cell? ⟨w.heap.size, 2, none⟩ = some (.bool false) := by simp [World.cell?, hb8]
          have f0 : W7.frozen? ⟨w.heap.size, 0, none⟩ = false := by simp [World.frozen?, hb8]
          have f1 : W7.frozen? ⟨w.heap.size, 1, none⟩ = false := by simp [World.frozen?, hb8]
          have f2 : W7.frozen? ⟨w.heap.size, 2, none⟩ = false := by simp [World.frozen?, hb8]
          have zl := cell_lt y0
          clear hb8
          go_wp2
          refine bodyPost_ret (v := .tuple #[rgV r, .bool true, .int .i64 0]) (by unfold results; rw [Tryd.results9]; go_simp; first | done | rfl) rfl ⟨by rw [HRN.out]; rfl, ?_⟩
          exact ext_set3 HT7.out.x (Nat.le_refl _) (by (repeat (first | exact Ext.refl _ | apply Ext.drew_left | apply Ext.drew | apply Ext.alloc)))
        | none =>
          have HGN := hid_mk (OwG.sl (k := 3) (by omega) (fun _ => rfl) (HNX.out HF.out))
          have HNF := hid_mk (show twinsF br lf f theirs mine (l.flatMap (nextR br lf mine theirs)) = R by rw [← HRES.out, twinsF, if_neg hl0, HF.out])
          have HWT := hid_mk (next_wt (theirs := theirs) (lf := lf) HRT.out HMO.out.1 HNO.out.c hl0)
          simp only [Option.getD_none, Option.isSome_none]
          go_wp2
          refine ⟨⟨_, theirs, mine, f, HT7.out.ext (by (repeat (first | exact Ext.refl _ | apply Ext.drew_left | apply Ext.drew | apply Ext.alloc))), HGN.out.ext (fun _ => rfl) (by (repeat (first | exact Ext.refl _ | apply Ext.drew_left | apply Ext.drew | apply Ext.alloc))), HSD.out.swap, (HNO.out.next HRT.out HMO.out.1).swap, ?_, HNF.out⟩, ?_⟩
          · rw [wtL_comm]
            have := HWT.out
            have := HWF.out
            omega
          · rw [rgsOf_eq (HGN.out.ext (fun _ => rfl) (by (repeat (first | exact Ext.refl _ | apply Ext.drew_left | apply Ext.drew | apply Ext.alloc)))), rgsOf_eq HN.out, HSD.out.wt, HSD.out.wt]
            exact HWT.out
end Go.Proofs.YtiimoaplhhnklaaDoor
namespace Go.Proofs.YtiimoaplhhnklaaDoor
open Go.RowKit Go.Lib
set_option maxHeartbeats 4000000
set_option maxRecDepth 100000
set_option linter.unusedSimpArgs false
set_option linter.unusedVariables false
attribute [-go_sem] Builtin.append_

theorem ghTwins_any {w : World} (a b : List Ent) (av bv : Value) (br lf : Int) (ha : EntSl w av a) (hb : EntSl w bv b) (hl : LanesAt w) :
    Calls Tryd.prog 8 #[av, bv, .int .i64 br, .int .i64 lf] w fun e w' => e = .returned (twinsV a b br lf) ∧ Ext w w' := by
  have HS := hid_mk (And.intro ha hb)
  have HL := hid_mk hl
  obtain ⟨g, hg⟩ : ∃ g, gChk [a, b] br lf 0 = g := ⟨_, rfl⟩
  obtain ⟨R, hR⟩ : ∃ R, twinsP a b br lf = R := ⟨_, rfl⟩
  have HG := hid_mk hg
  have HR := hid_mk (show (if g = 0 then twinsF br lf 600 b a [⟨⟨#[]⟩, ⟨#[]⟩, true⟩] else none) = R by rw [← hR, twinsP, hg])
  rw [twinsV, hg, hR]
  obtain ⟨xa, xc, rfl, -⟩ := ha
  obtain ⟨ya, yc, rfl, -⟩ := hb
  clear hg hR hl
  go_enter Tryd.func8, Tryd.ntmps8
  go_wp2_with fail
  refine gen_callsK (fun W => TwAt w W ∧ SnSl W (.slice (some ⟨w.heap.size + 1, 0, none⟩) 2 2) [a, b]) ⟨⟨by (repeat (first | exact Ext.refl _ | apply Ext.drew_left | apply Ext.drew | apply Ext.alloc)), ?_⟩, ?_⟩ ?_
  · refine Eq.trans ?_ (heap_alloc_new w (.cells #[.string ⟨#[]⟩, .string ⟨#[]⟩, .bool false] 26))
    exact Below.heap_alloc _ _ _ (by simp)
  · refine ⟨_, 2, rfl, by simp, by simp, fun _ => ⟨_, 0, rfl, fun i hi => ?_⟩⟩
    have hxx : Ext w ((w.alloc (.cells #[.string ⟨#[]⟩, .string ⟨#[]⟩, .bool false] 26)).alloc (.cells #[.slice xa a.length xc, .slice ya b.length yc] 22)) := by (repeat (first | exact Ext.refl _ | apply Ext.drew_left | apply Ext.drew | apply Ext.alloc))
    match i, hi with
    | 0, _ => exact ⟨.slice xa a.length xc, by go_simp, HS.out.1.ext hxx⟩
    | 1, _ => exact ⟨.slice ya b.length yc, by go_simp, HS.out.2.ext hxx⟩
  rintro W0 ⟨h0, hsn⟩
  refine (gcheck_any br lf 0 0 0 _ _ hsn).mono ?_
  rintro e W1 ⟨rfl, hx⟩
  rw [HG.out]
  have HA1 := hid_mk (h0.ext hx)
  clear h0 hx hsn
  have hb8 := HA1.out.b
  by_cases h1 : g = 0
  rotate_left
  · have hbz : (g == 0) = false := by rw [beq_eq_false_iff_ne]; exact h1
    have HRN := hid_mk (show R = none by rw [← HR.out, if_neg h1])
    have hb8 := HA1.out.b
    have y0 : W1.cell? ⟨w.heap.size, 0, none⟩ = some (.string ⟨#[]⟩) := by simp [World.cell?, hb8]
    have y1 : W1.cell? ⟨w.heap.size, 1, none⟩ = some (.string ⟨#[]⟩) := by simp [World.cell?, hb8]
    have y2 : W1.cell? ⟨w.heap.size, 2, none⟩ = some (.bool false) := by simp [World.cell?, hb8]
    have f0 : W1.frozen? ⟨w.heap.size, 0, none⟩ = false := by simp [World.frozen?, hb8]
    have f1 : W1.frozen? ⟨w.heap.size, 1, none⟩ = false := by simp [World.frozen?, hb8]
    have f2 : W1.frozen? ⟨w.heap.size, 2, none⟩ = false := by simp [World.frozen?, hb8]
    have zl := cell_lt y0
    clear hb8
    go_wp2
    refine bodyPost_ret (v := .tuple #[rgV zRg, .bool false, .int .i64 g]) (by unfold results; rw [Tryd.results8]; go_simp; first | done | rfl) rfl ⟨by rw [HRN.out]; rfl, ?_⟩
    exact ext_set3 HA1.out.x (Nat.le_refl _) (by (repeat (first | exact Ext.refl _ | apply Ext.drew_left | apply Ext.drew | apply Ext.alloc)))
  subst h1
  rw [if_pos rfl] at HR
  obtain ⟨hz, hrt, -⟩ := gChk_zero HG.out
  have HM := hid_mk (And.intro (mapOk_held (hz a (by simp))) (mapOk_held (hz b (by simp))))
  have HRT := hid_mk hrt
  clear hz hrt hb8
  go_wp2_with fail
  refine (twins0_any a b _ _ br lf (HS.out.1.ext HA1.out.x) (HS.out.2.ext HA1.out.x) (HL.out.ext HA1.out.x) HM.out.1 HM.out.2 HRT.out).mono ?_
  rintro e W2 ⟨rfl, hx⟩
  rw [HR.out]
  have HA2 := hid_mk (HA1.out.ext hx)
  clear hx HA1
  have hb8 := HA2.out.b
  have y0 : W2.cell? ⟨w.heap.size, 0, none⟩ = some (.string ⟨#[]⟩) := by simp [World.cell?, hb8]
  have y1 : W2.cell? ⟨w.heap.size, 1, none⟩ = some (.string ⟨#[]⟩) := by simp [World.cell?, hb8]
  have y2 : W2.cell? ⟨w.heap.size, 2, none⟩ = some (.bool false) := by simp [World.cell?, hb8]
  have f0 : W2.frozen? ⟨w.heap.size, 0, none⟩ = false := by simp [World.frozen?, hb8]
  have f1 : W2.frozen? ⟨w.heap.size, 1, none⟩ = false := by simp [World.frozen?, hb8]
  have f2 : W2.frozen? ⟨w.heap.size, 2, none⟩ = false := by simp [World.frozen?, hb8]
  have zl := cell_lt y0
  clear hb8
  cases R with
  | none =>
    simp only [twV, Option.getD_none, Option.isSome_none]
    go_wp2
    refine bodyPost_ret (v := .tuple #[rgV zRg, .bool false, .int .i64 0]) (by unfold results; rw [Tryd.results8]; go_simp; first | done | rfl) rfl ⟨rfl, ?_⟩
    exact ext_set3 HA2.out.x (Nat.le_refl _) (by (repeat (first | exact Ext.refl _ | apply Ext.drew_left | apply Ext.drew | apply Ext.alloc)))
  | some r =>
    simp only [twV, Option.getD_some, Option.isSome_some]
    go_wp2
    refine bodyPost_ret (v := .tuple #[rgV r, .bool true, .int .i64 0]) (by unfold results; rw [Tryd.results8]; go_simp; first | done | rfl) rfl ⟨rfl, ?_⟩
    exact ext_set3 HA2.out.x (Nat.le_refl _) (by (repeat (first | exact Ext.refl _ | apply Ext.drew_left | apply Ext.drew | apply Ext.alloc)))
end Go.Proofs.YtiimoaplhhnklaaDoor
