/- Judging: the document's Differ of maps of one key and version each; alike. -/
import Derived.Test.YtiimoaplhhnklaaDoorJD
namespace Go.Proofs.YtiimoaplhhnklaaDoor
open Go.RowKit
set_option maxHeartbeats 4000000
set_option maxRecDepth 100000
set_option linter.unusedSimpArgs false
set_option linter.unusedVariables false
attribute [local go_sem ↓] eql_ver neq_ver
attribute [-go_sem] Builtin.append_

theorem r9Differ_eq {w : World} (a b : List Ent) (av bv : Value) (hs : EntSl w av a) (hs' : EntSl w bv b) (hla : a.length ≤ 300000000) (hlb : b.length ≤ 300000000) (hq : chk2 a b = 0 → ∀ p ∈ prs a b, vEq p = true) :
    Calls Tryd.prog 41 #[av, bv] w fun e w' => ∃ g c, e = .returned (.tuple #[.slice g 0 c, .int .i64 (chk2 a b)]) ∧ Ext w w' := by
  have HS := hid_mk (And.intro hs hs')
  have HLL := hid_mk (And.intro hla hlb)
  have HQ := hid_mk hq
  obtain ⟨xa, xc, rfl, -⟩ := hs
  obtain ⟨ya, yc, rfl, -⟩ := hs'
  obtain ⟨z, hz⟩ : ∃ z, chk2 a b = z := ⟨_, rfl⟩
  have HZ := hid_mk hz
  rw [hz]
  clear hla hlb hz hq
  by_cases hz0 : z = 0
  · subst hz0
    have HQ2 := hid_mk (HQ.out HZ.out)
    obtain ⟨ps, hps⟩ : ∃ ps, prs a b = ps := ⟨_, rfl⟩
    have HPS := hid_mk hps
    rw [hps] at HQ2
    clear hps HQ
    have HAB0 := hid_mk (show mChk a = 0 ∧ mChk b = 0 by
      have h := HZ.out
      unfold chk2 at h
      split at h
      · rename_i h1; exact absurd h h1
      · rename_i h1; exact ⟨by simpa using h1, h⟩)
    go_enter Tryd.func41, Tryd.ntmps41
    go_wp2_with fail
    refine (r9Check2_any a b _ _ _ HS.out.1 HS.out.2).mono ?_
    rintro e W1 ⟨rfl, hx1⟩
    rw [show (if mChk a ≠ 0 then mChk a else mChk b) = 0 from HZ.out]
    have HX1 := hid_mk hx1
    clear hx1
    go_wp2_with fail
    refine (r9Pairs_big a b _ _ _ (HS.out.1.ext HX1.out) (HS.out.2.ext HX1.out) HAB0.out.1 HAB0.out.2 HLL.out.1 HLL.out.2).mono ?_
    rintro e W2 ⟨pv, rfl, hop, hx2⟩
    have HX2 := hid_mk (Ext.trans _ _ _ HX1.out hx2)
    rw [HPS.out] at hop
    have HPL := hid_mk (show ps.length ≤ 600000000 by
      have := prs_len a b
      have := HLL.out
      rw [HPS.out] at *
      omega)
    have HOP := hid_mk (fun (hp : 0 < ps.length) => ownP_at hop hp)
    obtain ⟨pa, pc, rfl⟩ := own_form hop
    clear hop hx2 HX1
    go_wp2_with fail
    go_loopw [8, 9] (fun v i wr => ∃ m : Nat, m ≤ ps.length ∧ i = .int .i64 (m : Int) ∧ (∃ g c, v = .slice g 0 c) ∧ Ext W2 wr) (fun v i _ => ps.length - (intOf i).toNat)
    case atStart => exact ⟨0, Nat.zero_le _, rfl, ⟨_, _, rfl⟩, by (repeat (first | exact Ext.refl _ | apply Ext.drew_left | apply Ext.drew | apply Ext.alloc))⟩
    case round =>
      obtain ⟨m, hm, rfl, ⟨og, oc, rfl⟩, hx⟩ := hrel
      have HX := hid_mk hx
      clear hx
      by_cases hlt : m < ps.length
      · obtain ⟨g, c', e', hat⟩ := HOP.out (by omega)
        cases e'
        obtain ⟨⟨p0, p1, p2, p3, p4⟩, ⟨q0, q1, q2, q3, q4⟩⟩ := hat m hlt
        replace p0 := cell_ext HX.out p0
        replace p1 := cell_ext HX.out p1
        replace p2 := cell_ext HX.out p2
        replace p3 := cell_ext HX.out p3
        replace p4 := cell_ext HX.out p4
        replace q0 := cell_ext HX.out q0
        replace q1 := cell_ext HX.out q1
        replace q2 := cell_ext HX.out q2
        replace q3 := cell_ext HX.out q3
        replace q4 := cell_ext HX.out q4
        have hgl := cell_lt p0
        have hve : vEq ps[m] = true := HQ2.out _ (List.getElem_mem hlt)
        obtain ⟨x, hxx⟩ : ∃ x, ps[m] = x := ⟨_, rfl⟩
        rw [hxx] at p0 p1 p2 p3 p4 q0 q1 q2 q3 q4 hve
        unfold vEq at hve
        have hvn : decide (¬ (x.1.ctr = x.2.ctr ∧ x.1.node = x.2.node)) = false := by rw [decide_not, hve]; rfl
        have hm1 : (m : Int) < (ps.length : Int) := by omega
        have hm0 : (0 : Int) ≤ (m : Int) := by omega
        have HW := hid_mk (show wrap64 ((m : Int) + 1) = (m : Int) + 1 from w64in (by have := HPL.out; omega))
        obtain ⟨hv1, hv2⟩ := of_decide_eq_true hve
        have HV := hid_mk (And.intro hv1 hv2)
        clear hat hxx hve
        rw [hv1] at p1 hvn
        rw [hv2] at p2 hvn
        clear hv1 hv2 hvn
        go_wp2_with fail
        refine wp_region_held_below (fun _ => true) (.quiet 0 (.quiet 1 (.quiet 2 (.quiet 3 (.quiet 4 (.quiet 5 (.quiet 6 (.quiet 7 (.quiet 8 (.quiet 9 (.quiet 10 (.quiet 11 (.quiet 12 .done))))))))))))) (by kernel_rfl) (by kernel_rfl) (by intro c a w d v h; cases d <;> exact h) (fun ops HO => ?_)
        refine plan_read _ (hi_of HO rfl) rfl (fun w' hE => by (repeat (with_reducible replace hE := Ext.unD hE)); have hcE := hE.hc; clear hE; go_simp; rfl) ?_
        simp only [Act.put, List.setIfInBounds_toArray, List.set_cons_succ, List.set_cons_zero]
        refine plan_read _ (hi_of HO rfl) rfl (fun w' hE => by (repeat (with_reducible replace hE := Ext.unD hE)); have hcE := hE.hc; clear hE; go_simp; rfl) ?_
        simp only [Act.put, List.setIfInBounds_toArray, List.set_cons_succ, List.set_cons_zero]
        refine plan_read _ (hi_of HO rfl) rfl (fun w' hE => by (repeat (with_reducible replace hE := Ext.unD hE)); have hcE := hE.hc; clear hE; go_simp; rfl) ?_
        simp only [Act.put, List.setIfInBounds_toArray, List.set_cons_succ, List.set_cons_zero]
        refine plan_read _ (hi_of HO rfl) rfl (fun w' hE => by (repeat (with_reducible replace hE := Ext.unD hE)); have hcE := hE.hc; clear hE; go_simp; rfl) ?_
        simp only [Act.put, List.setIfInBounds_toArray, List.set_cons_succ, List.set_cons_zero]
        refine plan_read _ (hi_of HO rfl) rfl (fun w' hE => by (repeat (with_reducible replace hE := Ext.unD hE)); have hcE := hE.hc; clear hE; go_simp; rfl) ?_
        simp only [Act.put, List.setIfInBounds_toArray, List.set_cons_succ, List.set_cons_zero]
        refine plan_read _ (hi_of HO rfl) rfl (fun w' hE => by (repeat (with_reducible replace hE := Ext.unD hE)); have hcE := hE.hc; clear hE; go_simp; rfl) ?_
        simp only [Act.put, List.setIfInBounds_toArray, List.set_cons_succ, List.set_cons_zero]
        refine plan_read _ (hi_of HO rfl) rfl (fun w' hE => by (repeat (with_reducible replace hE := Ext.unD hE)); have hcE := hE.hc; clear hE; go_simp; rfl) ?_
        simp only [Act.put, List.setIfInBounds_toArray, List.set_cons_succ, List.set_cons_zero]
        refine plan_read _ (hi_of HO rfl) rfl (fun w' hE => by (repeat (with_reducible replace hE := Ext.unD hE)); have hcE := hE.hc; clear hE; go_simp; rfl) ?_
        simp only [Act.put, List.setIfInBounds_toArray, List.set_cons_succ, List.set_cons_zero]
        refine plan_read _ (hi_of HO rfl) rfl (fun w' hE => by (repeat (with_reducible replace hE := Ext.unD hE)); have hcE := hE.hc; clear hE; go_simp; rfl) ?_
        simp only [Act.put, List.setIfInBounds_toArray, List.set_cons_succ, List.set_cons_zero]
        refine plan_read _ (hi_of HO rfl) rfl (fun w' hE => by (repeat (with_reducible replace hE := Ext.unD hE)); have hcE := hE.hc; clear hE; go_simp; rfl) ?_
        simp only [Act.put, List.setIfInBounds_toArray, List.set_cons_succ, List.set_cons_zero]
        refine plan_read _ (hi_of HO rfl) rfl (fun w' hE => by (repeat (with_reducible replace hE := Ext.unD hE)); have hcE := hE.hc; clear hE; go_simp; rfl) ?_
        simp only [Act.put, List.setIfInBounds_toArray, List.set_cons_succ, List.set_cons_zero]
        refine plan_read _ (hi_of HO rfl) rfl (fun w' hE => by (repeat (with_reducible replace hE := Ext.unD hE)); have hcE := hE.hc; clear hE; go_simp; rfl) ?_
        simp only [Act.put, List.setIfInBounds_toArray, List.set_cons_succ, List.set_cons_zero]
        refine plan_read _ (hi_of HO rfl) rfl (fun w' hE => by (repeat (with_reducible replace hE := Ext.unD hE)); have hcE := hE.hc; clear hE; go_simp; rfl) ?_
        simp only [Act.put, List.setIfInBounds_toArray, List.set_cons_succ, List.set_cons_zero]
        refine plan_done ?fin101
        go_wp2
        go_roundw
        case rel => exact ⟨m + 1, hlt, (by first | exact congrArg (Value.int .i64) HW.out | rfl), ⟨_, _, rfl⟩, by first | exact HX.out | exact Ext.drew HX.out⟩
        case measure => (try simp only [HW.out]); simp [intOf]; omega
      · obtain rfl : m = ps.length := by omega
        have hmm : ¬ ((ps.length : Nat) : Int) < (ps.length : Int) := by omega
        have HXF := hid_mk (Ext.trans _ _ _ HX2.out HX.out)
        go_wp2
        refine bodyPost_ret (v := .tuple #[.slice og 0 oc, .int .i64 0]) (by unfold results; rw [Tryd.results41]; go_simp; first | done | rfl) rfl ?_
        exact ⟨⟨_, _, rfl⟩, HXF.out⟩
  · go_enter Tryd.func41, Tryd.ntmps41
    go_wp2_with fail
    refine (r9Check2_any a b _ _ _ HS.out.1 HS.out.2).mono ?_
    rintro e w1 ⟨rfl, hx1⟩
    rw [show (if mChk a ≠ 0 then mChk a else mChk b) = z from HZ.out]
    have HX1 := hid_mk hx1
    have hb : (z == 0) = false := by rw [beq_eq_false_iff_ne]; exact hz0
    clear hx1
    go_wp2
    refine bodyPost_ret (v := .tuple #[.slice none 0 0, .int .i64 z]) (by unfold results; rw [Tryd.results41]; go_simp; first | done | rfl) rfl ⟨_, _, rfl, HX1.out⟩
theorem ralike_eq {w : World} (a b : List Ent) (av bv : Value) (hs : EntSl w av a) (hs' : EntSl w bv b) (hla : a.length ≤ 300000000) (hlb : b.length ≤ 300000000) (hq : chk2 a b = 0 → ∀ p ∈ prs a b, vEq p = true) :
    Calls Tryd.prog 32 #[av, bv] w fun e w' => e = .returned (.bool true) ∧ Ext w w' := by
  go_enter Tryd.func32, Tryd.ntmps32
  go_wp2_with fail
  refine (r9Differ_eq a b _ _ hs hs' hla hlb hq).mono ?_
  rintro e w1 ⟨g, c, rfl, hx1⟩
  have HX1 := hid_mk hx1
  clear hx1 hs hs'
  go_wp2
  go_ret
  exact ⟨rfl, HX1.out⟩
theorem difR_nil {a b : List Ent} (hq : chk2 a b = 0 → ∀ p ∈ prs a b, vEq p = true) : difR a b = [] := by
  unfold difR
  split
  · rename_i h
    unfold difL
    rw [List.filter_eq_nil_iff.2 (fun p hp => by simp [hq h p hp])]
    rfl
  · rfl
def alikeB (a b : List Ent) : Bool := (difR a b).isEmpty
theorem alike_any {w : World} (a b : List Ent) (av bv : Value) (hs : EntSl w av a) (hs' : EntSl w bv b) (hla : a.length ≤ 300000000) (hlb : b.length ≤ 300000000) :
    Calls Tryd.prog 31 #[av, bv] w fun e w' => e = .returned (.bool (alikeB a b)) ∧ Ext w w' := by
  unfold alikeB
  obtain ⟨d, hd⟩ : ∃ d, difR a b = d := ⟨_, rfl⟩
  have HD := hid_mk hd
  rw [hd]
  go_enter Tryd.func31, Tryd.ntmps31
  go_wp2_with fail
  refine (mDiffer_any a b _ _ hs hs' hla hlb).mono ?_
  rintro e w1 ⟨v, rfl, ho, hx1⟩
  have HX1 := hid_mk hx1
  rw [HD.out] at ho
  obtain ⟨g, c, rfl⟩ := own_form ho
  clear hx1 hs hs' ho hd
  go_wp2
  go_ret
  exact ⟨ret_bool (by cases d <;> simp <;> omega), HX1.out⟩
end Go.Proofs.YtiimoaplhhnklaaDoor
