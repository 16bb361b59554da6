/- Judging: the document's Differ of any maps: how many keys it gives; both alikes. Judging: the plain law of twins: ranges that are cut grow smaller. Judging: the parts of a range share no key: so there are never more ranges than entries. -/
import Derived.Test.YtiimoaplhhnklaaDoorMKL
import Derived.Test.YtiimoaplhhnklaaDoorMJF
namespace Go.Proofs.YtiimoaplhhnklaaDoor
open Go.RowKit
set_option maxHeartbeats 4000000
set_option maxRecDepth 100000
set_option linter.unusedSimpArgs false
set_option linter.unusedVariables false
attribute [local go_sem ↓] eql_ver neq_ver
attribute [-go_sem] Builtin.append_

theorem eChk_key {e : Ent} (h : eChk e = 0) : e.key.size ≤ 16 := by
  unfold eChk entCheck at h
  split at h
  · cases h
  · omega
theorem prs_keys {a b : List Ent} (h : chk2 a b = 0) : ∀ p ∈ prs a b, p.1.key.size ≤ 16 ∧ p.2.key.size ≤ 16 := fun p hp => by
  obtain ⟨ha, hb⟩ := chk2_zero h
  rcases prs_mem a b p hp with ⟨h1, h2⟩ | ⟨h1, h2⟩ | ⟨h1, h2, h3⟩
  · exact ⟨eChk_key (mChkP_all _ _ ha _ h1), by rw [h2]; decide⟩
  · exact ⟨by rw [h1]; decide, eChk_key (mChkP_all _ _ hb _ h2)⟩
  · exact ⟨eChk_key (mChkP_all _ _ ha _ h1), eChk_key (mChkP_all _ _ hb _ h2)⟩
theorem owS_of_g {w : World} {B : Nat} {v : Value} {l : List ByteArray} (h : OwG 9 1 cK w B v l) : OwS w B v l := by unfold OwG at h; rw [flat_cK] at h; exact h
/-- A row of so many keys. -/
def OwN (w : World) (B : Nat) (v : Value) (n : Nat) : Prop := ∃ L, OwS w B v L ∧ L.length = n
theorem r9Differ_any {w : World} (a b : List Ent) (av bv : Value) (hs : EntSl w av a) (hs' : EntSl w bv b) (hla : a.length ≤ 300000000) (hlb : b.length ≤ 300000000) :
    Calls Tryd.prog 41 #[av, bv] w fun e w' => ∃ v, e = .returned (.tuple #[v, .int .i64 (chk2 a b)]) ∧ OwN w' w.heap.size v (difR a b).length ∧ Ext w w' := by
  have HS := hid_mk (And.intro hs hs')
  have HLL := hid_mk (And.intro hla hlb)
  obtain ⟨xa, xc, rfl, -⟩ := hs
  obtain ⟨ya, yc, rfl, -⟩ := hs'
  obtain ⟨z, hz⟩ : ∃ z, chk2 a b = z := ⟨_, rfl⟩
  have HZ := hid_mk hz
  rw [hz]
  clear hla hlb hz
  by_cases hz0 : z = 0
  · subst hz0
    obtain ⟨ps, hps⟩ : ∃ ps, prs a b = ps := ⟨_, rfl⟩
    have HPS := hid_mk hps
    have HDR := hid_mk (show (difR a b).length = (difL ps).length by rw [difR, if_pos HZ.out, hps])
    have HKY := hid_mk (prs_keys HZ.out)
    rw [hps] at HKY
    rw [HDR.out]
    clear hps
    have HAB0 := hid_mk (chk2_zero HZ.out)
    go_enter Tryd.func41, Tryd.ntmps41
    go_wp2_with fail
    refine (r9Check2_any a b _ _ _ HS.out.1 HS.out.2).mono ?_
    rintro e W1 ⟨rfl, hx1⟩
    rw [show (if mChk a ≠ 0 then mChk a else mChk b) = 0 from HZ.out]
    have HX1 := hid_mk hx1
    clear hx1
    go_wp2_with fail
    refine (r9Pairs_big a b _ _ _ (HS.out.1.ext HX1.out) (HS.out.2.ext HX1.out) HAB0.out.1 HAB0.out.2 HLL.out.1 HLL.out.2).mono ?_
    rintro e W2 ⟨pv, rfl, hop, hx2⟩
    have HX2 := hid_mk (Ext.trans _ _ _ HX1.out hx2)
    rw [HPS.out] at hop
    have HPL := hid_mk (show ps.length ≤ 600000000 by
      have := prs_len a b
      have := HLL.out
      rw [HPS.out] at *
      omega)
    have HOP := hid_mk (fun (hp : 0 < ps.length) => ownP_at hop hp)
    obtain ⟨pa, pc, rfl⟩ := own_form hop
    clear hop hx2 HX1
    have hE := heap_alloc_new W2 (.cells #[] 9)
    go_wp2_with fail
    go_loopw [8, 9] (fun v i wr => ∃ m : Nat, m ≤ ps.length ∧ i = .int .i64 (m : Int) ∧ OwN wr W2.heap.size v (difL (ps.take m)).length ∧ Ext W2 wr) (fun v i _ => ps.length - (intOf i).toNat)
    case atStart => exact ⟨0, Nat.zero_le _, rfl, ⟨[], ownS_empty hE (Nat.le_refl _), rfl⟩, by (repeat (first | exact Ext.refl _ | apply Ext.drew_left | apply Ext.drew | apply Ext.alloc))⟩
    case round =>
      clear hE
      obtain ⟨m, hm, rfl, ⟨L, hL, hLn⟩, hx⟩ := hrel
      have HX := hid_mk hx
      have HOW := hid_mk hL
      have HLN := hid_mk hLn
      clear hx hL hLn
      by_cases hlt : m < ps.length
      · obtain ⟨g, c', e', hat⟩ := HOP.out (by omega)
        cases e'
        have HAT := hid_mk (hat m hlt)
        have HDS := hid_mk (show difL (ps.take (m + 1)) = if vEq ps[m] = true then difL (ps.take m) else difL (ps.take m) ++ [dKey ps[m]] by rw [List.take_succ_eq_append_getElem hlt, difL_snoc])
        have hky := HKY.out _ (List.getElem_mem hlt)
        obtain ⟨x, hxx⟩ : ∃ x, ps[m] = x := ⟨_, rfl⟩
        rw [hxx] at HAT HDS hky
        have hsz : ¬ x.1.key.size + x.2.key.size > 9223372036854775807 := by omega
        have hm1 : (m : Int) < (ps.length : Int) := by omega
        have hm0 : (0 : Int) ≤ (m : Int) := by omega
        have HW := hid_mk (show wrap64 ((m : Int) + 1) = (m : Int) + 1 from w64in (by have := HPL.out; omega))
        obtain ⟨va, vc, ev⟩ := own_form HOW.out
        subst ev
        have hLl : L.length ≤ 600000000 := by rw [HLN.out]; have := difL_len (ps.take m); have := HPL.out; rw [List.length_take] at *; omega
        clear hat hxx hky
        obtain ⟨p0, p1, p2, p3, p4⟩ := HAT.out.1.ext HX.out
        obtain ⟨q0, q1, q2, q3, q4⟩ := HAT.out.2.ext HX.out
        have hgl := cell_lt p0
        have HHG := hid_mk (show g < W2.heap.size from cell_lt HAT.out.1.c0)
        obtain ⟨ve, hve⟩ : ∃ ve, vEq x = ve := ⟨_, rfl⟩
        have HVE := hid_mk hve
        unfold vEq at hve
        cases ve with
        | true =>
          have hvn : decide (¬ (x.1.ctr = x.2.ctr ∧ x.1.node = x.2.node)) = false := by rw [decide_not, hve]; rfl
          obtain ⟨hv1, hv2⟩ := of_decide_eq_true hve
          rw [hv1] at p1 hvn
          rw [hv2] at p2 hvn
          clear hve hv1 hv2 hvn
          go_wp2_with fail
          refine wp_region_held_below (fun _ => true) (.quiet 0 (.quiet 1 (.quiet 2 (.quiet 3 (.quiet 4 (.quiet 5 (.quiet 6 (.quiet 7 (.quiet 8 (.quiet 9 (.quiet 10 (.quiet 11 (.quiet 12 .done))))))))))))) (by kernel_rfl) (by kernel_rfl) (by intro c a w d v h; cases d <;> exact h) (fun ops HO => ?_)
          refine plan_read _ (hi_of HO rfl) rfl (fun w' hE => by (repeat (with_reducible replace hE := Ext.unD hE)); have hcE := hE.hc; clear hE; go_simp; rfl) ?_
          simp only [Act.put, List.setIfInBounds_toArray, List.set_cons_succ, List.set_cons_zero]
          refine plan_read _ (hi_of HO rfl) rfl (fun w' hE => by (repeat (with_reducible replace hE := Ext.unD hE)); have hcE := hE.hc; clear hE; go_simp; rfl) ?_
          simp only [Act.put, List.setIfInBounds_toArray, List.set_cons_succ, List.set_cons_zero]
          refine plan_read _ (hi_of HO rfl) rfl (fun w' hE => by (repeat (with_reducible replace hE := Ext.unD hE)); have hcE := hE.hc; clear hE; go_simp; rfl) ?_
          simp only [Act.put, List.setIfInBounds_toArray, List.set_cons_succ, List.set_cons_zero]
          refine plan_read _ (hi_of HO rfl) rfl (fun w' hE => by (repeat (with_reducible replace hE := Ext.unD hE)); have hcE := hE.hc; clear hE; go_simp; rfl) ?_
          simp only [Act.put, List.setIfInBounds_toArray, List.set_cons_succ, List.set_cons_zero]
          refine plan_read _ (hi_of HO rfl) rfl (fun w' hE => by (repeat (with_reducible replace hE := Ext.unD hE)); have hcE := hE.hc; clear hE; go_simp; rfl) ?_
          simp only [Act.put, List.setIfInBounds_toArray, List.set_cons_succ, List.set_cons_zero]
          refine plan_read _ (hi_of HO rfl) rfl (fun w' hE => by (repeat (with_reducible replace hE := Ext.unD hE)); have hcE := hE.hc; clear hE; go_simp; rfl) ?_
          simp only [Act.put, List.setIfInBounds_toArray, List.set_cons_succ, List.set_cons_zero]
          refine plan_read _ (hi_of HO rfl) rfl (fun w' hE => by (repeat (with_reducible replace hE := Ext.unD hE)); have hcE := hE.hc; clear hE; go_simp; rfl) ?_
          simp only [Act.put, List.setIfInBounds_toArray, List.set_cons_succ, List.set_cons_zero]
          refine plan_read _ (hi_of HO rfl) rfl (fun w' hE => by (repeat (with_reducible replace hE := Ext.unD hE)); have hcE := hE.hc; clear hE; go_simp; rfl) ?_
          simp only [Act.put, List.setIfInBounds_toArray, List.set_cons_succ, List.set_cons_zero]
          refine plan_read _ (hi_of HO rfl) rfl (fun w' hE => by (repeat (with_reducible replace hE := Ext.unD hE)); have hcE := hE.hc; clear hE; go_simp; rfl) ?_
          simp only [Act.put, List.setIfInBounds_toArray, List.set_cons_succ, List.set_cons_zero]
          refine plan_read _ (hi_of HO rfl) rfl (fun w' hE => by (repeat (with_reducible replace hE := Ext.unD hE)); have hcE := hE.hc; clear hE; go_simp; rfl) ?_
          simp only [Act.put, List.setIfInBounds_toArray, List.set_cons_succ, List.set_cons_zero]
          refine plan_read _ (hi_of HO rfl) rfl (fun w' hE => by (repeat (with_reducible replace hE := Ext.unD hE)); have hcE := hE.hc; clear hE; go_simp; rfl) ?_
          simp only [Act.put, List.setIfInBounds_toArray, List.set_cons_succ, List.set_cons_zero]
          refine plan_read _ (hi_of HO rfl) rfl (fun w' hE => by (repeat (with_reducible replace hE := Ext.unD hE)); have hcE := hE.hc; clear hE; go_simp; rfl) ?_
          simp only [Act.put, List.setIfInBounds_toArray, List.set_cons_succ, List.set_cons_zero]
          refine plan_read _ (hi_of HO rfl) rfl (fun w' hE => by (repeat (with_reducible replace hE := Ext.unD hE)); have hcE := hE.hc; clear hE; go_simp; rfl) ?_
          simp only [Act.put, List.setIfInBounds_toArray, List.set_cons_succ, List.set_cons_zero]
          refine plan_done ?fin101
          go_wp2
          go_roundw
          case rel => exact ⟨m + 1, hlt, (by first | exact congrArg (Value.int .i64) HW.out | rfl), ⟨L, HOW.out.ext (by (repeat (first | exact Ext.refl _ | apply Ext.drew_left | apply Ext.drew | apply Ext.alloc))), by rw [HDS.out, if_pos HVE.out]; exact HLN.out⟩, by first | exact HX.out | exact Ext.drew HX.out⟩
          case measure => (try simp only [HW.out]); simp [intOf]; omega
        | false =>
          have hvn : ¬ (x.1.ctr = x.2.ctr ∧ x.1.node = x.2.node) := of_decide_eq_false hve
          have hob0 : ∀ k, (Value.slice va L.length vc).ownBlock = some k → W2.heap.size ≤ k := fun k e => (World.ownsRow.lt HOW.out k e).1
          have HNG := hid_mk (show g ∉ (Value.slice va L.length vc).ownBlock.toList from fun hm => by have := hob0 g (by simpa using hm); have := HHG.out; omega)
          obtain ⟨ob, hob⟩ : ∃ ob, (Value.slice va L.length vc).ownBlock.toList = ob := ⟨_, rfl⟩
          rw [hob] at HNG
          have HOB := hid_mk hob
          clear hob0 hob hve
          go_wp2_with fail
          refine wp_region_held_below (fun _ => true) (.quiet 0 (.quiet 1 (.quiet 2 (.quiet 3 (.quiet 4 (.quiet 5 (.quiet 6 (.quiet 7 (.quiet 8 (.quiet 9 (.quiet 10 (.quiet 11 (.quiet 12 .done))))))))))))) (by kernel_rfl) (by kernel_rfl) (by intro c a w d v h; cases d <;> exact h) (fun ops HO => ?_)
          refine plan_read _ (hi_of HO rfl) rfl (fun w' hE => by (repeat (with_reducible replace hE := Ext.unD hE)); have hcE := hE.hc; clear hE; go_simp; rfl) ?_
          simp only [Act.put, List.setIfInBounds_toArray, List.set_cons_succ, List.set_cons_zero]
          refine plan_read _ (hi_of HO rfl) rfl (fun w' hE => by (repeat (with_reducible replace hE := Ext.unD hE)); have hcE := hE.hc; clear hE; go_simp; rfl) ?_
          simp only [Act.put, List.setIfInBounds_toArray, List.set_cons_succ, List.set_cons_zero]
          refine plan_read _ (hi_of HO rfl) rfl (fun w' hE => by (repeat (with_reducible replace hE := Ext.unD hE)); have hcE := hE.hc; clear hE; go_simp; rfl) ?_
          simp only [Act.put, List.setIfInBounds_toArray, List.set_cons_succ, List.set_cons_zero]
          refine plan_read _ (hi_of HO rfl) rfl (fun w' hE => by (repeat (with_reducible replace hE := Ext.unD hE)); have hcE := hE.hc; clear hE; go_simp; rfl) ?_
          simp only [Act.put, List.setIfInBounds_toArray, List.set_cons_succ, List.set_cons_zero]
          refine plan_read _ (hi_of HO rfl) rfl (fun w' hE => by (repeat (with_reducible replace hE := Ext.unD hE)); have hcE := hE.hc; clear hE; go_simp; rfl) ?_
          simp only [Act.put, List.setIfInBounds_toArray, List.set_cons_succ, List.set_cons_zero]
          refine plan_read _ (hi_of HO rfl) rfl (fun w' hE => by (repeat (with_reducible replace hE := Ext.unD hE)); have hcE := hE.hc; clear hE; go_simp; rfl) ?_
          simp only [Act.put, List.setIfInBounds_toArray, List.set_cons_succ, List.set_cons_zero]
          refine plan_read _ (hi_of HO rfl) rfl (fun w' hE => by (repeat (with_reducible replace hE := Ext.unD hE)); have hcE := hE.hc; clear hE; go_simp; rfl) ?_
          simp only [Act.put, List.setIfInBounds_toArray, List.set_cons_succ, List.set_cons_zero]
          refine plan_read _ (hi_of HO rfl) rfl (fun w' hE => by (repeat (with_reducible replace hE := Ext.unD hE)); have hcE := hE.hc; clear hE; go_simp; rfl) ?_
          simp only [Act.put, List.setIfInBounds_toArray, List.set_cons_succ, List.set_cons_zero]
          refine plan_read _ (hi_of HO rfl) rfl (fun w' hE => by (repeat (with_reducible replace hE := Ext.unD hE)); have hcE := hE.hc; clear hE; go_simp; rfl) ?_
          simp only [Act.put, List.setIfInBounds_toArray, List.set_cons_succ, List.set_cons_zero]
          refine plan_read _ (hi_of HO rfl) rfl (fun w' hE => by (repeat (with_reducible replace hE := Ext.unD hE)); have hcE := hE.hc; clear hE; go_simp; rfl) ?_
          simp only [Act.put, List.setIfInBounds_toArray, List.set_cons_succ, List.set_cons_zero]
          refine plan_read _ (hi_of HO rfl) rfl (fun w' hE => by (repeat (with_reducible replace hE := Ext.unD hE)); have hcE := hE.hc; clear hE; go_simp; rfl) ?_
          simp only [Act.put, List.setIfInBounds_toArray, List.set_cons_succ, List.set_cons_zero]
          refine plan_read _ (hi_of HO rfl) rfl (fun w' hE => by (repeat (with_reducible replace hE := Ext.unD hE)); have hcE := hE.hc; clear hE; go_simp; rfl) ?_
          simp only [Act.put, List.setIfInBounds_toArray, List.set_cons_succ, List.set_cons_zero]
          refine plan_read _ (hi_of HO rfl) rfl (fun w' hE => by (repeat (with_reducible replace hE := Ext.unD hE)); have hcE := hE.hc; clear hE; go_simp; rfl) ?_
          simp only [Act.put, List.setIfInBounds_toArray, List.set_cons_succ, List.set_cons_zero]
          refine plan_done ?fin102
          go_wp2_with fail
          refine wp_region_held_planC (Xl ob) (fun _ => true) (fun i => [0, 1, 2, 3, 4, 5, 7, 8, 9, 10, 11, 13, 16].contains i) (.quiet 0 (.quiet 1 (.quiet 2 (.quiet 3 (.quiet 4 (.quiet 5 (.quiet 6 (.quiet 7 (.quiet 8 (.quiet 9 (.quiet 10 (.quiet 11 (.quiet 12 (.quiet 13 (.alt 14 (.alt 15 (.quiet 16 .done) .stop) .stop))))))))))))))) (by kernel_rfl) (by kernel_rfl) Xl.refl Xl.trans (by intro c a w d v h; cases d <;> exact h) (fun ops HO => ?_)
          refine planC_calm _ (hi_of HO rfl) rfl (fun w' => by go_simp; rfl) ?_
          simp only [Act.put, List.setIfInBounds_toArray, List.set_cons_succ, List.set_cons_zero]
          refine planC_calm _ (hi_of HO rfl) rfl (fun w' => by go_simp; rfl) ?_
          simp only [Act.put, List.setIfInBounds_toArray, List.set_cons_succ, List.set_cons_zero]
          refine planC_calm _ (hi_of HO rfl) rfl (fun w' => by go_simp; rfl) ?_
          simp only [Act.put, List.setIfInBounds_toArray, List.set_cons_succ, List.set_cons_zero]
          refine planC_calm _ (hi_of HO rfl) rfl (fun w' => by go_simp; rfl) ?_
          simp only [Act.put, List.setIfInBounds_toArray, List.set_cons_succ, List.set_cons_zero]
          refine planC_calm _ (hi_of HO rfl) rfl (fun w' => by go_simp; rfl) ?_
          simp only [Act.put, List.setIfInBounds_toArray, List.set_cons_succ, List.set_cons_zero]
          refine planC_calm _ (hi_of HO rfl) rfl (fun w' => by go_simp; rfl) ?_
          simp only [Act.put, List.setIfInBounds_toArray, List.set_cons_succ, List.set_cons_zero]
          refine planC_read _ (hi_of HO rfl) rfl rfl (fun w' hE => by have hcE := fun o => hE.cell (k := g) (o := o) hgl HNG.out; clear hE; go_simp; rfl) ?_
          simp only [Act.put, List.setIfInBounds_toArray, List.set_cons_succ, List.set_cons_zero]
          refine planC_calm _ (hi_of HO rfl) rfl (fun w' => by go_simp; rfl) ?_
          simp only [Act.put, List.setIfInBounds_toArray, List.set_cons_succ, List.set_cons_zero]
          refine planC_calm _ (hi_of HO rfl) rfl (fun w' => by go_simp; rfl) ?_
          simp only [Act.put, List.setIfInBounds_toArray, List.set_cons_succ, List.set_cons_zero]
          refine planC_calm _ (hi_of HO rfl) rfl (fun w' => by go_simp; rfl) ?_
          simp only [Act.put, List.setIfInBounds_toArray, List.set_cons_succ, List.set_cons_zero]
          refine planC_calm _ (hi_of HO rfl) rfl (fun w' => by go_simp; rfl) ?_
          simp only [Act.put, List.setIfInBounds_toArray, List.set_cons_succ, List.set_cons_zero]
          refine planC_calm _ (hi_of HO rfl) rfl (fun w' => by go_simp; rfl) ?_
          simp only [Act.put, List.setIfInBounds_toArray, List.set_cons_succ, List.set_cons_zero]
          refine planC_read _ (hi_of HO rfl) rfl rfl (fun w' hE => by have hcE := fun o => hE.cell (k := g) (o := o) hgl HNG.out; clear hE; go_simp; rfl) ?_
          simp only [Act.put, List.setIfInBounds_toArray, List.set_cons_succ, List.set_cons_zero]
          refine planC_calm _ (hi_of HO rfl) rfl (fun w' => by go_simp; rfl) ?_
          simp only [Act.put, List.setIfInBounds_toArray, List.set_cons_succ, List.set_cons_zero]
          refine planC_loud1 (hi_of HO rfl) rfl ?_
          go_simp
          refine ⟨Xl.of (by (repeat (first | exact Ext.refl _ | apply Ext.drew_left | apply Ext.drew | apply Ext.alloc))), ?_⟩
          have hx4 : Ext wr (wr.alloc (.cells #[.string (x.1.key ++ x.2.key)] 9)).drew.drew := by (repeat (first | exact Ext.refl _ | apply Ext.drew_left | apply Ext.drew | apply Ext.alloc))
          obtain ⟨v', w', hrun, ho, hg, hob⟩ := appendS (w := (wr.alloc (.cells #[.string (x.1.key ++ x.2.key)] 9)).drew.drew) (HOW.out.ext hx4) (by exact heap_alloc_new wr _) (by omega) (by have := HX.out.below.size; have := hx4.below.size; omega)
          have hxw := ext_grown (base := W2.heap.size) (Ext.trans _ _ _ HX.out hx4) hg (HOW.out.ext hx4) (Nat.le_refl _)
          have hx6 := xl_grownB hg
          rw [HOB.out] at hx6
          obtain ⟨va', vc', eva⟩ := own_form ho
          rw [List.length_append, show [x.1.key ++ x.2.key].length = 1 from rfl] at eva
          subst eva
          have HOF := hid_mk (And.intro ho hxw)
          clear ho hg hxw hx4 hob
          refine planC_loud1 (hi_of HO rfl) rfl ?_
          go_simp
          clear hx6 hrun
          refine planC_calm _ (hi_of HO rfl) rfl (fun w' => by go_simp; rfl) ?_
          simp only [Act.put, List.setIfInBounds_toArray, List.set_cons_succ, List.set_cons_zero]
          refine planC_done ?fin103
          have HDN := hid_mk (show L.length + 1 = (difL (ps.take (m + 1))).length by rw [HDS.out, if_neg (by rw [HVE.out]; simp), List.length_append, HLN.out]; rfl)
          clear p0 p1 p2 p3 p4 q0 q1 q2 q3 q4 hgl
          obtain ⟨p0, p1, p2, p3, p4⟩ := HAT.out.1.ext HOF.out.2
          obtain ⟨q0, q1, q2, q3, q4⟩ := HAT.out.2.ext HOF.out.2
          have hgl := cell_lt p0
          go_wp2_with fail
          refine (none_any x.1 _).mono ?_
          rintro e W3 ⟨rfl, hx3⟩
          have HOF3 := hid_mk (And.intro (HOF.out.1.ext hx3) (Ext.trans _ _ _ HOF.out.2 hx3))
          clear hx3 HOF
          obtain ⟨nb, hnb⟩ : ∃ nb, decide (x.1.ctr = 0) = nb := ⟨_, rfl⟩
          rw [hnb]
          clear hnb
          clear p0 p1 p2 p3 p4 q0 q1 q2 q3 q4 hgl
          obtain ⟨p0, p1, p2, p3, p4⟩ := HAT.out.1.ext HOF3.out.2
          obtain ⟨q0, q1, q2, q3, q4⟩ := HAT.out.2.ext HOF3.out.2
          have hgl := cell_lt p0
          cases nb with
          | true =>
            go_wp2
            go_roundw
            case rel => exact ⟨m + 1, hlt, (by first | exact congrArg (Value.int .i64) HW.out | rfl), ⟨_, HOF3.out.1, by rw [← HDN.out]; simp⟩, HOF3.out.2⟩
            case measure => (try simp only [HW.out]); simp [intOf]; omega
          | false =>
            go_wp2_with fail
            refine (none_any x.2 _).mono ?_
            rintro e W4 ⟨rfl, hx4⟩
            have HOF4 := hid_mk (And.intro (HOF3.out.1.ext hx4) (Ext.trans _ _ _ HOF3.out.2 hx4))
            clear hx4 HOF3
            obtain ⟨nb, hnb⟩ : ∃ nb, decide (x.2.ctr = 0) = nb := ⟨_, rfl⟩
            rw [hnb]
            clear hnb
            clear p0 p1 p2 p3 p4 q0 q1 q2 q3 q4 hgl
            obtain ⟨p0, p1, p2, p3, p4⟩ := HAT.out.1.ext HOF4.out.2
            obtain ⟨q0, q1, q2, q3, q4⟩ := HAT.out.2.ext HOF4.out.2
            have hgl := cell_lt p0
            cases nb with
            | true =>
              go_wp2
              go_roundw
              case rel => exact ⟨m + 1, hlt, (by first | exact congrArg (Value.int .i64) HW.out | rfl), ⟨_, HOF4.out.1, by rw [← HDN.out]; simp⟩, HOF4.out.2⟩
              case measure => (try simp only [HW.out]); simp [intOf]; omega
            | false =>
              have hnz : 0 < (L ++ [x.1.key ++ x.2.key]).length := by simp
              obtain ⟨g8, c8, hv8, -, -, -, -⟩ := OwG.at (t := 9) (k := 1) (f := cK) Nat.one_pos (fun _ => rfl) HOF4.out.1.g hnz
              rw [List.length_append, show [x.1.key ++ x.2.key].length = 1 from rfl] at hv8
              cases hv8
              have s0 : W4.cell? ⟨g8, L.length, none⟩ = some (.string (x.1.key ++ x.2.key)) := OwG.cell1 (f := cK) (fun _ => rfl) HOF4.out.1.g rfl (by rw [List.getElem?_append_right (Nat.le_refl _), Nat.sub_self]; rfl) rfl
              have f8 : W4.frozen? ⟨g8, L.length, none⟩ = false := own_frozen HOF4.out.1.g rfl _
              have sl := cell_lt s0
              have hgb := (World.ownsRow.lt HOF4.out.1 g8 rfl).1
              have HS4 := hid_mk (show OwS (W4.setCell ⟨g8, L.length, none⟩ (.string x.1.key)) W2.heap.size (.slice (some ⟨g8, 0, none⟩) (L.length + 1) vc') (L ++ [x.1.key]) by
                have hll : (L ++ [x.1.key ++ x.2.key]).length = L.length + 1 := by simp
                have h := OwG.set1 (f := cK) (fun _ => rfl) (show OwG 9 1 cK W4 W2.heap.size (.slice (some ⟨g8, 0, none⟩) (L ++ [x.1.key ++ x.2.key]).length vc') (L ++ [x.1.key ++ x.2.key]) by rw [hll]; exact HOF4.out.1.g) (i := L.length) (x := x.1.key) (by omega) rfl
                rw [List.length_set, hll, List.set_append_right _ _ (Nat.le_refl _), Nat.sub_self] at h
                exact owS_of_g h)
              go_wp2
              go_roundw
              case rel => exact ⟨m + 1, hlt, (by first | exact congrArg (Value.int .i64) HW.out | rfl), ⟨_, HS4.out, by rw [← HDN.out]; simp⟩, Xl.ext HOF4.out.2 (L := [g8]) ((Xl.refl W4).set (by simp)) (by simp; exact hgb)⟩
              case measure => (try simp only [HW.out]); simp [intOf]; omega
      · obtain rfl : m = ps.length := by omega
        have hmm : ¬ ((ps.length : Nat) : Int) < (ps.length : Int) := by omega
        rw [List.take_length] at HLN
        have HXF := hid_mk (Ext.trans _ _ _ HX2.out HX.out)
        obtain ⟨va, vc, ev⟩ := own_form HOW.out
        subst ev
        go_wp2
        refine bodyPost_ret (v := .tuple #[.slice va L.length vc, .int .i64 0]) (by unfold results; rw [Tryd.results41]; go_simp; first | done | rfl) rfl ?_
        exact ⟨_, rfl, ⟨L, HOW.out.lower HX2.out.below.size, HLN.out⟩, HXF.out⟩
  · have HMR := hid_mk (show difR a b = [] by rw [difR, if_neg (by rw [HZ.out]; exact hz0)])
    rw [HMR.out]
    go_enter Tryd.func41, Tryd.ntmps41
    go_wp2_with fail
    refine (r9Check2_any a b _ _ _ HS.out.1 HS.out.2).mono ?_
    rintro e w1 ⟨rfl, hx1⟩
    rw [show (if mChk a ≠ 0 then mChk a else mChk b) = z from HZ.out]
    have HX1 := hid_mk hx1
    have hb : (z == 0) = false := by rw [beq_eq_false_iff_ne]; exact hz0
    clear hx1
    go_wp2
    refine bodyPost_ret (v := .tuple #[.slice none 0 0, .int .i64 z]) (by unfold results; rw [Tryd.results41]; go_simp; first | done | rfl) rfl ⟨_, rfl, ⟨[], ownS_nil _ _, rfl⟩, HX1.out⟩
theorem len_pos_iff (l : List ByteArray) : decide (0 < (l.length : Int)) = !l.isEmpty := by cases l <;> simp
theorem ralike_any {w : World} (a b : List Ent) (av bv : Value) (hs : EntSl w av a) (hs' : EntSl w bv b) (hla : a.length ≤ 300000000) (hlb : b.length ≤ 300000000) :
    Calls Tryd.prog 32 #[av, bv] w fun e w' => e = .returned (.bool (alikeB a b)) ∧ Ext w w' := by
  unfold alikeB
  obtain ⟨n, hn⟩ : ∃ n, (difR a b).length = n := ⟨_, rfl⟩
  have HN := hid_mk hn
  have HB := hid_mk (show (difR a b).isEmpty = decide ((n : Int) = 0) by rw [← hn]; cases difR a b <;> simp; omega)
  rw [HB.out]
  clear hn
  go_enter Tryd.func32, Tryd.ntmps32
  go_wp2_with fail
  refine (r9Differ_any a b _ _ hs hs' hla hlb).mono ?_
  rintro e w1 ⟨v, rfl, ⟨L, hL, hLn⟩, hx1⟩
  have HX1 := hid_mk hx1
  rw [HN.out] at hLn
  obtain ⟨va, vc, ev⟩ := own_form hL
  subst ev
  rw [hLn]
  clear hx1 hs hs' hL hLn
  go_wp2
  go_ret
  exact ⟨rfl, HX1.out⟩
end Go.Proofs.YtiimoaplhhnklaaDoor
namespace Go.Proofs.YtiimoaplhhnklaaDoor
open Go.RowKit
set_option maxHeartbeats 4000000
set_option maxRecDepth 100000
set_option linter.unusedSimpArgs false
set_option linter.unusedVariables false

def inG (r : Rg) (l : List Ent) : List Ent := inF r.lo r.hi r.op l
def talEq (x y : List Ent) : Bool := decide ((x.length : Int) = (y.length : Int) ∧ sum0 x = sum0 y ∧ sum1 x = sum1 y)
def hitR (mine theirs : List Ent) (r : Rg) : Bool := talEq (inG r mine) (inG r theirs) && !alikeB (inG r mine) (inG r theirs)
def nextR (br lf : Int) (mine theirs : List Ent) (r : Rg) : List Rg :=
  if talEq (inG r mine) (inG r theirs) = true then [] else if ((inG r mine).length : Int) ≤ lf then [] else rangesL r (keysL (inG r mine)) (min br.toNat (inG r mine).length)
def twinsF (br lf : Int) : Nat → List Ent → List Ent → List Rg → Option Rg
  | 0, _, _, _ => none
  | f + 1, mine, theirs, l => if l = [] then none else match l.find? (hitR mine theirs) with
    | some r => some r
    | none => twinsF br lf f theirs mine (l.flatMap (nextR br lf mine theirs))
def wtR (a b : List Ent) (r : Rg) : Nat := (inG r a).length + (inG r b).length
def wtL (a b : List Ent) : List Rg → Nat
  | [] => 0
  | r :: l => max (wtR a b r + 1) (wtL a b l)
theorem wtR_comm (a b : List Ent) (r : Rg) : wtR a b r = wtR b a r := Nat.add_comm _ _
theorem wtL_comm (a b : List Ent) : ∀ l, wtL a b l = wtL b a l
  | [] => rfl
  | r :: l => by rw [wtL, wtL, wtR_comm, wtL_comm a b l]
theorem wtL_mem (a b : List Ent) : ∀ (l : List Rg), ∀ r ∈ l, wtR a b r + 1 ≤ wtL a b l
  | [], r, h => by cases h
  | q :: l, r, h => by
    rw [wtL]
    rcases List.mem_cons.1 h with rfl | h
    · exact Nat.le_max_left _ _
    · exact Nat.le_trans (wtL_mem a b l r h) (Nat.le_max_right _ _)
theorem wtL_le (a b : List Ent) (d : Nat) : ∀ (l : List Rg), (∀ r ∈ l, wtR a b r + 1 ≤ d) → wtL a b l ≤ d
  | [], _ => Nat.zero_le _
  | q :: l, h => by
    rw [wtL]
    exact Nat.max_le.2 ⟨h q List.mem_cons_self, wtL_le a b d l fun r hr => h r (List.mem_cons_of_mem _ hr)⟩
/-- A map that may be. -/
structure MapOk (l : List Ent) : Prop where
  c : mChk l = 0
  n : l.length ≤ 256
theorem mChkP_rise : ∀ (l : List Ent) (k : ByteArray), mChkP (some k) l = 0 → (∀ x ∈ l, Op.bytesLess k.toList x.key.toList = true) ∧ l.Pairwise (fun x y => Op.bytesLess x.key.toList y.key.toList = true)
  | [], _, _ => ⟨fun x h => (by cases h), List.Pairwise.nil⟩
  | e :: r, k, h => by
    unfold mChkP at h
    split at h
    · rename_i h1; exact absurd h h1
    · split at h
      · cases h
      · rename_i h1 h2
        have hk : Op.bytesLess k.toList e.key.toList = true := by
          rcases hb : Op.bytesLess k.toList e.key.toList with _ | _
          · exact absurd ⟨k, rfl, hb⟩ h2
          · rfl
        obtain ⟨h3, h4⟩ := mChkP_rise r e.key h
        refine ⟨fun x hx => ?_, List.Pairwise.cons h3 h4⟩
        rcases List.mem_cons.1 hx with rfl | hx
        · exact hk
        · exact bl_trans hk (h3 x hx)
theorem mChk_rise {l : List Ent} (h : mChk l = 0) : l.Pairwise (fun x y => Op.bytesLess x.key.toList y.key.toList = true) := by
  cases l with
  | nil => exact List.Pairwise.nil
  | cons e r =>
    unfold mChk mChkP at h
    split at h
    · rename_i h1; exact absurd h h1
    · split at h
      · cases h
      · obtain ⟨h3, h4⟩ := mChkP_rise r e.key h
        exact List.Pairwise.cons h3 h4
theorem keysOk {r : Rg} {l : List Ent} (h : MapOk l) : KeysOk (keysL (inG r l)) := by
  have hp := (mChk_rise h.c).sublist (List.filter_sublist (p := holdE r.lo r.hi r.op))
  refine ⟨fun k hk => ?_, fun i hi => ?_, ?_⟩
  · obtain ⟨e, he, rfl⟩ := List.mem_map.1 hk
    have := eChk_key (mChkP_all _ _ h.c e (List.mem_filter.1 he).1)
    omega
  · have h2 := List.pairwise_iff_getElem.1 hp i (i + 1) (by unfold keysL inG inF at hi; rw [List.length_map] at hi; omega) (by unfold keysL inG inF at hi; rw [List.length_map] at hi; exact hi) (by omega)
    simpa [keysL, inG, inF] using h2
  · unfold keysL
    rw [List.length_map]
    exact Nat.le_trans (inF_len _ _ _ _) h.n
theorem splOk {r : Rg} {l : List Ent} {p : Nat} (h : MapOk l) (hr : rngCheck r.lo r.hi r.op = 0) (h1 : 1 ≤ p) (h2 : p ≤ (inG r l).length) : SplOk r (keysL (inG r l)) p :=
  ⟨hr, keysOk h, fun k hk => by
    obtain ⟨e, he, rfl⟩ := List.mem_map.1 hk
    exact (List.mem_filter.1 he).2, h1, by unfold keysL; rw [List.length_map]; exact h2⟩
/-- What a range is that may be. -/
theorem rngCheck_iff (lo hi : ByteArray) (op : Bool) : rngCheck lo hi op = 0 ↔ (lo.size : Int) ≤ 16 ∧ (hi.size : Int) ≤ 16 ∧ (op = true → hi.toList.isEmpty = true) ∧ (op = false → Op.bytesLess hi.toList lo.toList = false) := by
  unfold rngCheck
  have ht := bl_triP lo.toList hi.toList
  split
  · rename_i h
    constructor
    · intro h'; cases h'
    · rintro ⟨h1, h2, -⟩; omega
  · rename_i h
    split
    · rename_i h2
      constructor
      · intro h'; cases h'
      · rintro ⟨-, -, h3, h4⟩
        rcases h2 with ⟨h5, h6⟩ | ⟨h5, h6, h7⟩
        · rw [h3 h5] at h6; cases h6
        · rcases ht.2 (h4 h5) with h8 | h8
          · rw [h6] at h8; cases h8
          · rw [h8] at h7; simp at h7
    · rename_i h2
      refine ⟨fun _ => ⟨by omega, by omega, fun ho => ?_, fun ho => ?_⟩, fun _ => rfl⟩
      · rcases he : hi.toList.isEmpty with _ | _
        · exact absurd (.inl ⟨ho, he⟩) h2
        · rfl
      · refine ht.1 ?_
        rcases h5 : Op.bytesLess lo.toList hi.toList with _ | _
        · right
          rcases h6 : (lo.toList == hi.toList) with _ | _
          · exact absurd (.inr ⟨ho, h5, h6⟩) h2
          · simpa using h6
        · exact .inl rfl
theorem low_ge {r : Rg} {bs : List ByteArray} (h : BordOk r bs) : ∀ j, j ≤ bs.length → Op.bytesLess (lowAt r.lo bs j).toList r.lo.toList = false
  | 0, _ => bl_irrefl _
  | j + 1, hj => by
    have h1 := h.l j (by omega)
    have h2 := low_ge h j (by omega)
    rw [lowAt_succ r.lo bs j (by omega)]
    rcases h3 : Op.bytesLess bs[j].toList r.lo.toList with _ | _
    · rfl
    · have h4 := bl_trans h1 h3
      rw [h2] at h4
      cases h4
theorem low_size {r : Rg} {bs : List ByteArray} (h : BordOk r bs) (j : Nat) (hj : j ≤ bs.length) : ((lowAt r.lo bs j).size : Int) ≤ 16 := by
  cases j with
  | zero => exact ((rngCheck_iff _ _ _).1 h.c).1
  | succ j => rw [lowAt_succ r.lo bs j (by omega)]; exact h.z _ (List.getElem_mem _)
/-- Each part is a range that may be, and lies within. -/
theorem split_mem {r : Rg} {bs : List ByteArray} (h : BordOk r bs) : ∀ q ∈ splitL r bs, rngCheck q.lo q.hi q.op = 0 ∧ (∀ k, rngHolds q.lo q.hi q.op k = true → rngHolds r.lo r.hi r.op k = true) := by
  obtain ⟨c1, c2, c3, c4⟩ := (rngCheck_iff _ _ _).1 h.c
  have key : ∀ (q : Rg), Op.bytesLess q.lo.toList r.lo.toList = false → (∀ k : ByteArray, (q.op = true ∨ Op.bytesLess k.toList q.hi.toList = true) → (r.op = true ∨ Op.bytesLess k.toList r.hi.toList = true)) → ∀ k, rngHolds q.lo q.hi q.op k = true → rngHolds r.lo r.hi r.op k = true := fun q h1 h2 k hk => by
    have h3 := holds_parts hk
    unfold rngHolds at hk ⊢
    simp only [Bool.and_eq_true, Bool.or_eq_true, Bool.not_eq_true'] at hk ⊢
    refine ⟨by rw [h.c]; rfl, hk.2.1, ?_, h2 k h3.2⟩
    rcases h4 : Op.bytesLess k.toList r.lo.toList with _ | _
    · rfl
    · have h5 := bl_lt_le h4 h1
      rw [h3.1] at h5
      cases h5
  intro q hq
  rcases List.mem_append.1 hq with hq | hq
  · obtain ⟨j, hj, rfl⟩ := List.mem_map.1 hq
    rw [List.mem_range] at hj
    have eb : bs.getD j ⟨#[]⟩ = bs[j] := by rw [List.getD_eq_getElem?_getD, List.getElem?_eq_getElem hj]; rfl
    dsimp only
    rw [eb]
    refine ⟨(rngCheck_iff _ _ _).2 ⟨low_size h j (by omega), h.z _ (List.getElem_mem _), fun e => (by cases e), fun _ => bl_asymm (h.l j hj)⟩, key ⟨_, _, _⟩ (low_ge h j (by omega)) fun k hk => ?_⟩
    rcases hk with hk | hk
    · cases hk
    · rcases h.u _ (List.getElem_mem hj) with h6 | h6
      · exact .inl h6
      · exact .inr (bl_trans hk h6)
  · rw [List.mem_singleton] at hq
    subst hq
    dsimp only
    refine ⟨(rngCheck_iff _ _ _).2 ⟨low_size h _ (Nat.le_refl _), c2, c3, fun e => ?_⟩, key ⟨_, _, _⟩ (low_ge h _ (Nat.le_refl _)) fun k hk => hk⟩
    rcases hn : bs.length with _ | n
    · exact c4 e
    · rw [lowAt_succ r.lo bs n (by omega)]
      rcases h.u _ (List.getElem_mem (by omega : n < bs.length)) with h6 | h6
      · rw [e] at h6; cases h6
      · exact bl_asymm h6
theorem inG_sub {q r : Rg} (h : ∀ k, rngHolds q.lo q.hi q.op k = true → rngHolds r.lo r.hi r.op k = true) (l : List Ent) : inG q l = (inG r l).filter (holdE q.lo q.hi q.op) := by
  unfold inG inF
  rw [List.filter_filter]
  refine List.filter_congr fun e _ => ?_
  unfold holdE
  rcases hq : rngHolds q.lo q.hi q.op e.key with _ | _
  · rfl
  · rw [h _ hq]; rfl
theorem inG_le {q r : Rg} (h : ∀ k, rngHolds q.lo q.hi q.op k = true → rngHolds r.lo r.hi r.op k = true) (l : List Ent) : (inG q l).length ≤ (inG r l).length := by
  rw [inG_sub h l]
  exact List.length_filter_le _ _
theorem inG_lt {q r : Rg} {l : List Ent} (h : ∀ k, rngHolds q.lo q.hi q.op k = true → rngHolds r.lo r.hi r.op k = true) (e : Ent) (he : e ∈ inG r l) (hn : rngHolds q.lo q.hi q.op e.key = false) : (inG q l).length < (inG r l).length := by
  rw [inG_sub h l]
  have := List.length_filter_lt_length_iff_exists (l := inG r l) (p := holdE q.lo q.hi q.op)
  exact this.2 ⟨e, he, by unfold holdE; rw [hn]; simp⟩
/-- A part of a range that is cut at keys of a map holds fewer of them. -/
theorem part_lt {r q : Rg} {l : List Ent} {p : Nat} (h : MapOk l) (hr : rngCheck r.lo r.hi r.op = 0) (h1 : 2 ≤ p) (h2 : p ≤ (inG r l).length) (hq : q ∈ rangesL r (keysL (inG r l)) p) : (inG q l).length < (inG r l).length := by
  have hs := splOk (r := r) h hr (by omega) h2
  have hb := bordOk hs
  have hsub := (split_mem hb q hq).2
  have hbl := bord_len (keysL (inG r l)) p
  have hmem : ∀ k ∈ keysL (inG r l), ∃ e ∈ inG r l, e.key = k := fun k hk => by
    obtain ⟨e, he, h3⟩ := List.mem_map.1 hk
    exact ⟨e, he, h3⟩
  have hkl : (keysL (inG r l)).length = (inG r l).length := by unfold keysL; rw [List.length_map]
  have hin : ∀ b ∈ bordersL (keysL (inG r l)) p, b ∈ keysL (inG r l) := fun b hb' => by
    obtain ⟨j, hj, e⟩ := List.getElem_of_mem hb'
    rw [hbl] at hj
    have h4 := bord_get (ks := keysL (inG r l)) (p := p) (j := j) hs.p2 (by omega)
    rw [List.getElem?_eq_getElem (by rw [hbl]; exact hj), e] at h4
    rw [Option.some.inj h4]
    exact List.getElem_mem _
  rcases List.mem_append.1 hq with hq | hq
  · obtain ⟨j, hj, rfl⟩ := List.mem_map.1 hq
    rw [List.mem_range] at hj
    have eb : (bordersL (keysL (inG r l)) p).getD j ⟨#[]⟩ = (bordersL (keysL (inG r l)) p)[j] := by rw [List.getD_eq_getElem?_getD, List.getElem?_eq_getElem hj]; rfl
    obtain ⟨e, he, hk⟩ := hmem _ (hin _ (List.getElem_mem hj))
    refine inG_lt hsub e he ?_
    dsimp only
    rw [hk, eb]
    unfold rngHolds
    rw [bl_irrefl]
    simp
  · rw [List.mem_singleton] at hq
    have h0 : 0 < (keysL (inG r l)).length := by omega
    obtain ⟨e, he, hk⟩ := hmem _ (List.getElem_mem h0)
    refine inG_lt hsub e he ?_
    rw [hq, hk]
    dsimp only
    have hlow : Op.bytesLess ((keysL (inG r l))[0]).toList (lowAt r.lo (bordersL (keysL (inG r l)) p) (bordersL (keysL (inG r l)) p).length).toList = true := by
      obtain ⟨n, hn⟩ : ∃ n, (bordersL (keysL (inG r l)) p).length = n + 1 := ⟨p - 2, by rw [hbl]; omega⟩
      rw [hn, lowAt_succ _ _ n (by omega)]
      have h4 := bord_get (ks := keysL (inG r l)) (p := p) (j := n) hs.p2 (by omega)
      rw [List.getElem?_eq_getElem (by omega)] at h4
      rw [Option.some.inj h4]
      refine rise_lt' hs.k ?_ _
      refine Nat.div_pos ?_ (by omega)
      calc p ≤ (keysL (inG r l)).length := hs.p2
        _ = 1 * (keysL (inG r l)).length := (Nat.one_mul _).symm
        _ ≤ (n + 1) * (keysL (inG r l)).length := Nat.mul_le_mul_right _ (by omega)
    unfold rngHolds
    rw [hlow]
    simp
/-- What comes of one range: ranges that may be, smaller than it. -/
theorem next_ok {br lf : Int} {mine theirs : List Ent} {r q : Rg} (hb : rightB br lf = true) (hm : MapOk mine) (hr : rngCheck r.lo r.hi r.op = 0) (hq : q ∈ nextR br lf mine theirs r) : rngCheck q.lo q.hi q.op = 0 ∧ wtR mine theirs q < wtR mine theirs r := by
  obtain ⟨h1, h2, h3, h4⟩ := of_decide_eq_true hb
  unfold nextR at hq
  split at hq
  · cases hq
  · split at hq
    · cases hq
    · rename_i h5
      have h6 : 2 ≤ min br.toNat (inG r mine).length := by omega
      have h7 : min br.toNat (inG r mine).length ≤ (inG r mine).length := Nat.min_le_right _ _
      have hs := splOk (r := r) hm hr (by omega) h7
      have h8 := split_mem (bordOk hs) q hq
      have h9 := part_lt hm hr h6 h7 hq
      have h10 := inG_le h8.2 theirs
      unfold wtR
      exact ⟨h8.1, by omega⟩
theorem next_wt {br lf : Int} {mine theirs : List Ent} {l : List Rg} (hb : rightB br lf = true) (hm : MapOk mine) (hr : ∀ r ∈ l, rngCheck r.lo r.hi r.op = 0) (hl : l ≠ []) : wtL mine theirs (l.flatMap (nextR br lf mine theirs)) < wtL mine theirs l := by
  have h0 : 0 < wtL mine theirs l := by
    cases l with
    | nil => exact absurd rfl hl
    | cons r l => rw [wtL]; exact Nat.lt_of_lt_of_le (Nat.succ_pos _) (Nat.le_max_left _ _)
  refine Nat.lt_of_le_of_lt (wtL_le _ _ (wtL mine theirs l - 1) _ fun q hq => ?_) (by omega)
  obtain ⟨r, h1, h2⟩ := List.mem_flatMap.1 hq
  have h3 := (next_ok hb hm (hr r h1) h2).2
  have h4 := wtL_mem mine theirs l r h1
  omega
theorem next_len {br lf : Int} {mine theirs : List Ent} (hm : MapOk mine) (r : Rg) : (nextR br lf mine theirs r).length ≤ 256 := by
  unfold nextR
  split
  · simp
  · split
    · simp
    · unfold rangesL splitL
      rw [List.length_append, preS_len, bord_len, List.length_singleton]
      have := Nat.min_le_right br.toNat (inG r mine).length
      have := inF_len r.lo r.hi r.op mine
      have := hm.n
      unfold inG at *
      omega
end Go.Proofs.YtiimoaplhhnklaaDoor
namespace Go.Proofs.YtiimoaplhhnklaaDoor
open Go.RowKit
set_option maxHeartbeats 4000000
set_option maxRecDepth 100000
set_option linter.unusedSimpArgs false
set_option linter.unusedVariables false

theorem low_mono {r : Rg} {bs : List ByteArray} (h : BordOk r bs) (i : Nat) : ∀ d, i + d ≤ bs.length → Op.bytesLess (lowAt r.lo bs (i + d)).toList (lowAt r.lo bs i).toList = false
  | 0, _ => bl_irrefl _
  | d + 1, hj => by
    have h1 := h.l (i + d) (by omega)
    have h2 := low_mono h i d (by omega)
    rw [show i + (d + 1) = i + d + 1 by omega, lowAt_succ r.lo bs (i + d) (by omega)]
    rcases h3 : Op.bytesLess (bs[i + d]).toList (lowAt r.lo bs i).toList with _ | _
    · rfl
    · have h4 := bl_trans h1 h3
      rw [h2] at h4
      cases h4
def apart (q q' : Rg) : Prop := ∀ k, rngHolds q.lo q.hi q.op k = true → rngHolds q'.lo q'.hi q'.op k = false
theorem apart_of {r : Rg} {bs : List ByteArray} (h : BordOk r bs) {i j : Nat} (hi : i < bs.length) (hij : i < j) (hj : j ≤ bs.length) (hi2 : ByteArray) (op : Bool) : apart ⟨lowAt r.lo bs i, bs[i], false⟩ ⟨lowAt r.lo bs j, hi2, op⟩ := fun k hk => by
  have h1 := (holds_parts (r := ⟨lowAt r.lo bs i, bs[i], false⟩) hk).2
  have h2 := low_mono h (i + 1) (j - (i + 1)) (by omega)
  rw [show i + 1 + (j - (i + 1)) = j by omega, lowAt_succ r.lo bs i hi] at h2
  rcases h3 : rngHolds (lowAt r.lo bs j) hi2 op k with _ | _
  · rfl
  · have h4 := (holds_parts (r := ⟨lowAt r.lo bs j, hi2, op⟩) h3).1
    rcases h1 with h1 | h1
    · cases h1
    · have h5 := bl_lt_le h1 h2
      rw [h4] at h5
      cases h5
theorem split_apart {r : Rg} {bs : List ByteArray} (h : BordOk r bs) : (splitL r bs).Pairwise apart := by
  unfold splitL
  rw [List.pairwise_append]
  refine ⟨?_, List.pairwise_singleton _ _, ?_⟩
  · unfold preS
    rw [List.pairwise_map]
    refine List.Pairwise.imp_of_mem ?_ List.pairwise_lt_range
    intro i j hi hj hij
    rw [List.mem_range] at hi hj
    rw [show bs.getD i ⟨#[]⟩ = bs[i] by rw [List.getD_eq_getElem?_getD, List.getElem?_eq_getElem hi]; rfl]
    exact apart_of h hi hij (by omega) _ _
  · intro q hq q' hq'
    rw [List.mem_singleton] at hq'
    subst hq'
    obtain ⟨i, hi, rfl⟩ := List.mem_map.1 hq
    rw [List.mem_range] at hi
    rw [show bs.getD i ⟨#[]⟩ = bs[i] by rw [List.getD_eq_getElem?_getD, List.getElem?_eq_getElem hi]; rfl]
    exact apart_of h hi hi (Nat.le_refl _) _ _
def hk (k : ByteArray) (q : Rg) : Bool := rngHolds q.lo q.hi q.op k
theorem count_apart (k : ByteArray) : ∀ (l : List Rg), l.Pairwise apart → l.countP (hk k) ≤ 1
  | [], _ => by simp
  | q :: l, h => by
    rw [List.pairwise_cons] at h
    rw [List.countP_cons]
    split
    · rename_i h1
      have : l.countP (hk k) = 0 := List.countP_eq_zero.2 fun q' hq' => by
        have := h.1 q' hq' k h1
        unfold hk
        rw [this]
        simp
      omega
    · have := count_apart k l h.2
      omega
def sumG (l : List Rg) (a : List Ent) : Nat := (l.map fun r => (inG r a).length).sum
theorem sumG_cons (q : Rg) (l : List Rg) (a : List Ent) : sumG (q :: l) a = (inG q a).length + sumG l a := by unfold sumG; rw [List.map_cons, List.sum_cons]
theorem sumG_app (l l' : List Rg) (a : List Ent) : sumG (l ++ l') a = sumG l a + sumG l' a := by unfold sumG; rw [List.map_append, List.sum_append]
theorem inG_cons (q : Rg) (e : Ent) (a : List Ent) : (inG q (e :: a)).length = (if hk e.key q = true then 1 else 0) + (inG q a).length := by
  unfold inG inF
  rw [List.filter_cons]
  unfold hk holdE
  split <;> simp; omega
theorem sumG_ent (e : Ent) (a : List Ent) : ∀ l : List Rg, sumG l (e :: a) = l.countP (hk e.key) + sumG l a
  | [] => rfl
  | q :: l => by
    rw [sumG_cons, sumG_cons, sumG_ent e a l, inG_cons, List.countP_cons]
    omega
theorem sumG_parts {r : Rg} {bs : List ByteArray} (h : BordOk r bs) : ∀ a : List Ent, sumG (splitL r bs) a ≤ (inG r a).length
  | [] => by
    have : ∀ l : List Rg, sumG l [] = 0 := fun l => by
      induction l with
      | nil => rfl
      | cons q l ih => rw [sumG_cons, ih]; rfl
    rw [this]
    exact Nat.zero_le _
  | e :: a => by
    rw [sumG_ent, inG_cons]
    have h1 := sumG_parts h a
    have h2 := count_apart e.key _ (split_apart h)
    split
    · omega
    · rename_i h3
      have : (splitL r bs).countP (hk e.key) = 0 := List.countP_eq_zero.2 fun q hq hq2 => h3 ((split_mem h q hq).2 _ hq2)
      omega
theorem next_sum {br lf : Int} {mine theirs : List Ent} {r : Rg} (hb : rightB br lf = true) (hm : MapOk mine) (hr : rngCheck r.lo r.hi r.op = 0) (a : List Ent) : sumG (nextR br lf mine theirs r) a ≤ (inG r a).length ∧ (nextR br lf mine theirs r).length ≤ (inG r mine).length := by
  obtain ⟨h1, h2, h3, h4⟩ := of_decide_eq_true hb
  unfold nextR
  split
  · exact ⟨Nat.zero_le _, Nat.zero_le _⟩
  · split
    · exact ⟨Nat.zero_le _, Nat.zero_le _⟩
    · rename_i h5
      have h7 : min br.toNat (inG r mine).length ≤ (inG r mine).length := Nat.min_le_right _ _
      have hs := splOk (r := r) (p := min br.toNat (inG r mine).length) hm hr (by omega) h7
      refine ⟨sumG_parts (bordOk hs) a, ?_⟩
      unfold rangesL splitL
      rw [List.length_append, preS_len, bord_len, List.length_singleton]
      omega
theorem nexts_sum {br lf : Int} {mine theirs : List Ent} (hb : rightB br lf = true) (hm : MapOk mine) (a : List Ent) : ∀ l : List Rg, (∀ r ∈ l, rngCheck r.lo r.hi r.op = 0) → sumG (l.flatMap (nextR br lf mine theirs)) a ≤ sumG l a ∧ (l.flatMap (nextR br lf mine theirs)).length ≤ sumG l mine
  | [], _ => ⟨Nat.le_refl _, Nat.le_refl _⟩
  | r :: l, h => by
    obtain ⟨h1, h2⟩ := nexts_sum (theirs := theirs) hb hm a l fun r hr => h r (List.mem_cons_of_mem _ hr)
    obtain ⟨h3, h4⟩ := next_sum (theirs := theirs) hb hm (h r List.mem_cons_self) a
    rw [List.flatMap_cons, sumG_app, sumG_cons, List.length_append, sumG_cons]
    omega
/-- The ranges of a turn. -/
structure NowOk (a b : List Ent) (l : List Rg) : Prop where
  c : ∀ r ∈ l, rngCheck r.lo r.hi r.op = 0
  sa : sumG l a ≤ 256
  sb : sumG l b ≤ 256
  n : l.length ≤ 256
theorem NowOk.swap {a b : List Ent} {l : List Rg} (h : NowOk a b l) : NowOk b a l := ⟨h.c, h.sb, h.sa, h.n⟩
theorem NowOk.next {br lf : Int} {mine theirs : List Ent} {l : List Rg} (hb : rightB br lf = true) (hm : MapOk mine) (h : NowOk mine theirs l) : NowOk mine theirs (l.flatMap (nextR br lf mine theirs)) := by
  have h1 := nexts_sum (theirs := theirs) hb hm mine l h.c
  have h2 := nexts_sum (theirs := theirs) hb hm theirs l h.c
  refine ⟨fun q hq => ?_, Nat.le_trans h1.1 h.sa, Nat.le_trans h2.1 h.sb, Nat.le_trans h1.2 h.sa⟩
  obtain ⟨r, h3, h4⟩ := List.mem_flatMap.1 hq
  exact (next_ok hb hm (h.c r h3) h4).1
theorem NowOk.take {br lf : Int} {mine theirs : List Ent} {l : List Rg} (hb : rightB br lf = true) (hm : MapOk mine) (h : NowOk mine theirs l) (k : Nat) : ((l.take k).flatMap (nextR br lf mine theirs)).length ≤ 256 := by
  have h1 := (nexts_sum (theirs := theirs) hb hm mine (l.take k) fun r hr => h.c r (List.mem_of_mem_take hr)).2
  have h2 : sumG (l.take k) mine ≤ sumG l mine := by
    conv => rhs; rw [← List.take_append_drop k l, sumG_app]
    omega
  have := h.sa
  omega
theorem nowOk_first {a b : List Ent} (ha : MapOk a) (hb : MapOk b) : NowOk a b [⟨⟨#[]⟩, ⟨#[]⟩, true⟩] := by
  refine ⟨fun r hr => ?_, ?_, ?_, by simp⟩
  · rw [List.mem_singleton] at hr
    subst hr
    exact (rngCheck_iff _ _ _).2 ⟨by decide, by decide, fun _ => by dsimp only; unfold ByteArray.toList; rw [ByteArray.toList.loop]; rfl, fun h => by cases h⟩
  · rw [sumG_cons]
    exact Nat.le_trans (inF_len _ _ _ a) ha.n
  · rw [sumG_cons]
    exact Nat.le_trans (inF_len _ _ _ b) hb.n
end Go.Proofs.YtiimoaplhhnklaaDoor
