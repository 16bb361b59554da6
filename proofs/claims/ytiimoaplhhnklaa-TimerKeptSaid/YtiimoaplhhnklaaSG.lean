/- Timers: Set. -/
import Derived.Test.YtiimoaplhhnklaaSF
namespace Go.Proofs.Ytiimoaplhhnklaa
open Go.RowKit
set_option maxHeartbeats 4000000
set_option maxRecDepth 100000
set_option linter.unusedSimpArgs false
set_option linter.unusedVariables false

theorem newc {w : World} {c : Array Value} {t : TypeId} {i : Nat} {v : Value} (h : c[i]? = some v) : (w.alloc (.cells c t)).cell? ⟨w.heap.size, i, none⟩ = some v := by rw [World.cell?_alloc_new]; exact h
/-- May it be a time? -/
def badT (t : Int) : Bool := decide (t < 0) || decide (1099511627776 < t)
def setL (n : Nm) (t : Int) (l : List Al) : List Al := if badT t then l else setA n t l
theorem TPost.ext {B : Nat} {w w' w'' : World} {tb mb : Nat} {v : Value} {l : List Al} (h : TPost B w tb mb v l w') (hx : Ext w' w'') : TPost B w tb mb v l w'' := by
  obtain ⟨v', h1, h2, h3⟩ := h
  exact ⟨v', h1.ext hx, Xl.trans _ _ _ h2 (Xl.of hx), h3⟩
theorem tset_any {B : Nat} {w : World} {tb mb : Nat} {v : Value} {l : List Al} (h : TimerAt B w tb mb v l) (n : Nm) (t : Int) (hl : l.length ≤ 100000000000) :
    Calls Try.prog 22 #[.pointer (some ⟨tb, 0, none⟩), nmV n, .int .i64 t] w fun e w' => e = .returned (.int .i64 (if badT t then 1 else 0)) ∧ TPost B w tb mb v (setL n t l) w' := by
  have H := hid_mk h
  have HLEN := hid_mk hl
  clear h hl
  by_cases h1 : t < 0
  · have e : badT t = true := by simp [badT, h1]
    unfold setL
    rw [if_pos e, if_pos e]
    go_enter Try.func22, Try.ntmps22
    go_wp2
    go_ret
    exact ⟨rfl, tpost_ext H.out (by (repeat (first | exact Ext.refl _ | apply Ext.drew_left | apply Ext.drew | apply Ext.alloc)))⟩
  by_cases h2 : 1099511627776 < t
  · have e : badT t = true := by simp [badT, h2]
    unfold setL
    rw [if_pos e, if_pos e]
    go_enter Try.func22, Try.ntmps22
    go_wp2
    go_ret
    exact ⟨rfl, tpost_ext H.out (by (repeat (first | exact Ext.refl _ | apply Ext.drew_left | apply Ext.drew | apply Ext.alloc)))⟩
  have e : ¬ badT t = true := by unfold badT; rw [decide_eq_false h1, decide_eq_false h2]; simp
  unfold setL
  rw [if_neg e, if_neg e]
  clear e
  go_enter Try.func22, Try.ntmps22
  go_wp2_with fail
  have hnb : NmAt (w.alloc (.cells #[.int .i64 n.1, .int .i64 n.2.1, .int .i64 n.2.2] 54)) w.heap.size n := ⟨by go_simp, by go_simp, by go_simp⟩
  have hlt := H.out.lt
  refine (tdrop_any (H.out.ext (by (repeat (first | exact Ext.refl _ | apply Ext.drew_left | apply Ext.drew | apply Ext.alloc)))) n HLEN.out).mono ?_
  rintro e W2 ⟨rfl, v2, k1, k2, k3⟩
  have HB2 := hid_mk (hnb.xl k2 (by
    intro hm
    simp at hm
    rcases hm with e | e | e
    · have := hlt.1; omega
    · have := hlt.2.1; omega
    · have := (hlt.2.2.1 _ e).2; omega))
  have H2 := hid_mk k1
  have HX2 := hid_mk (Xl.trans w _ _ (Xl.of (by (repeat (first | exact Ext.refl _ | apply Ext.drew_left | apply Ext.drew | apply Ext.alloc)))) k2)
  have K3 := hid_mk (show v2.ownBlock = v.ownBlock from k3)
  have HL2 := hid_mk (show (del n l).length ≤ 100000000000 from Nat.le_trans (del_len_le n l) HLEN.out)
  clear k1 k2 k3 hnb hlt
  obtain ⟨b0, b1, b2⟩ := HB2.out
  have hbl := cell_lt b0
  go_wp2_with fail
  obtain ⟨W3, hW3⟩ : ∃ W, W2.alloc (.cells #[.int .i64 n.1, .int .i64 n.2.1, .int .i64 n.2.2, .int .i64 t] 106) = W := ⟨_, rfl⟩
  have hx3 : Ext W2 W3 := by rw [← hW3]; exact (Ext.refl W2).alloc _
  have ha3 : AlAt W3 W2.heap.size 0 (n, t) := by rw [← hW3]; exact ⟨newc rfl, newc rfl, newc rfl, newc rfl⟩
  rw [hW3]
  clear hW3
  obtain ⟨ab, hab⟩ : ∃ ab, W2.heap.size = ab := ⟨_, rfl⟩
  have HAB := hid_mk hab
  simp only [hab] at ha3 ⊢
  clear hab
  have HA3 := hid_mk ha3
  have HX3 := hid_mk hx3
  obtain ⟨a0, a1, a2, a3⟩ := ha3
  simp only [Nat.zero_add] at a0 a1 a2 a3
  have hal := cell_lt a0
  obtain ⟨va, vc, rfl⟩ := own_form H2.out.own
  have hc1 := cell_ext hx3 H2.out.c1
  have htl := cell_lt hc1
  obtain ⟨q, hq⟩ : ∃ q, pos (n, t) (del n l) = q := ⟨_, rfl⟩
  have HQ := hid_mk hq
  have hqb : q ≤ (del n l).length := by rw [← hq]; exact pos_le _ _
  have HQB := hid_mk hqb
  obtain ⟨fa, hfa⟩ : ∃ fa, foundA (n, t) (del n l) = fa := ⟨_, rfl⟩
  have HFA := hid_mk hfa
  clear hx3 b0 b1 b2 hbl hq hqb hfa
  refine wp_region_held_below (fun _ => true) (.quiet 0 (.quiet 1 (.quiet 2 (.quiet 3 (.quiet 4 (.alt 5 (.quiet 6 (.quiet 7 (.quiet 8 (.quiet 9 (.quiet 10 .done))))) .stop)))))) (by kernel_rfl) (by kernel_rfl) (by intro c a w d v h; cases d <;> exact h) (fun ops HO => ?_)
  refine plan_read _ (hi_of HO rfl) rfl (fun w' hE => by (repeat (with_reducible replace hE := Ext.unD hE)); have hcE := hE.hc; clear hE; go_simp; rfl) ?_
  simp only [Act.put, List.setIfInBounds_toArray, List.set_cons_succ, List.set_cons_zero]
  refine plan_read _ (hi_of HO rfl) rfl (fun w' hE => by (repeat (with_reducible replace hE := Ext.unD hE)); have hcE := hE.hc; clear hE; go_simp; rfl) ?_
  simp only [Act.put, List.setIfInBounds_toArray, List.set_cons_succ, List.set_cons_zero]
  refine plan_read _ (hi_of HO rfl) rfl (fun w' hE => by (repeat (with_reducible replace hE := Ext.unD hE)); have hcE := hE.hc; clear hE; go_simp; rfl) ?_
  simp only [Act.put, List.setIfInBounds_toArray, List.set_cons_succ, List.set_cons_zero]
  refine plan_read _ (hi_of HO rfl) rfl (fun w' hE => by (repeat (with_reducible replace hE := Ext.unD hE)); have hcE := hE.hc; clear hE; go_simp; rfl) ?_
  simp only [Act.put, List.setIfInBounds_toArray, List.set_cons_succ, List.set_cons_zero]
  refine plan_read _ (hi_of HO rfl) rfl (fun w' hE => by (repeat (with_reducible replace hE := Ext.unD hE)); have hcE := hE.hc; clear hE; go_simp; rfl) ?_
  simp only [Act.put, List.setIfInBounds_toArray, List.set_cons_succ, List.set_cons_zero]
  refine plan_call1 en_BSF (hi_of HO rfl) rfl rfl (by go_simp; rfl) (by exact (bsf_any (n, t) ((H2.out.ext (Ext.trans _ _ _ HX3.out (by (repeat (first | exact Ext.refl _ | apply Ext.drew_left | apply Ext.drew | apply Ext.alloc))))).form (by have := HL2.out; omega)) H2.out.ok)) ?_
  rintro e v101 ⟨rfl, hx101⟩
  refine ⟨_, rfl, fun _ => hx101, ?_⟩
  have hy101 := hid_mk (by first | (with_reducible exact Ext.unD hx101) | exact hx101 : Ext _ v101)
  have hc101 := hx101.hc; have hl101 := hx101.hl; have he101 := hx101.hle; have hn101 := hx101.hne; replace hx101 := hid_mk hx101
  simp only [Act.put, List.setIfInBounds_toArray, List.set_cons_succ, List.set_cons_zero]
  have HZ := hy101
  refine plan_read _ (hi_of HO rfl) rfl (fun w' hE => by have hcE := (Ext.trans _ _ _ (by (repeat (first | exact hx101.out | apply Ext.drew | apply Ext.alloc))) hE).hc; (repeat (with_reducible replace hE := Ext.unD hE)); have hcF := hE.hc; clear hE; go_simp; rfl) ?_
  simp only [Act.put, List.setIfInBounds_toArray, List.set_cons_succ, List.set_cons_zero]
  refine plan_read _ (hi_of HO rfl) rfl (fun w' hE => by have hcE := (Ext.trans _ _ _ (by (repeat (first | exact hx101.out | apply Ext.drew | apply Ext.alloc))) hE).hc; (repeat (with_reducible replace hE := Ext.unD hE)); have hcF := hE.hc; clear hE; go_simp; rfl) ?_
  simp only [Act.put, List.setIfInBounds_toArray, List.set_cons_succ, List.set_cons_zero]
  refine plan_read _ (hi_of HO rfl) rfl (fun w' hE => by have hcE := (Ext.trans _ _ _ (by (repeat (first | exact hx101.out | apply Ext.drew | apply Ext.alloc))) hE).hc; (repeat (with_reducible replace hE := Ext.unD hE)); have hcF := hE.hc; clear hE; go_simp; rfl) ?_
  simp only [Act.put, List.setIfInBounds_toArray, List.set_cons_succ, List.set_cons_zero]
  refine plan_read _ (hi_of HO rfl) rfl (fun w' hE => by have hcE := (Ext.trans _ _ _ (by (repeat (first | exact hx101.out | apply Ext.drew | apply Ext.alloc))) hE).hc; (repeat (with_reducible replace hE := Ext.unD hE)); have hcF := hE.hc; clear hE; go_simp; rfl) ?_
  simp only [Act.put, List.setIfInBounds_toArray, List.set_cons_succ, List.set_cons_zero]
  refine plan_read _ (hi_of HO rfl) rfl (fun w' hE => by have hcE := (Ext.trans _ _ _ (by (repeat (first | exact hx101.out | apply Ext.drew | apply Ext.alloc))) hE).hc; (repeat (with_reducible replace hE := Ext.unD hE)); have hcF := hE.hc; clear hE; go_simp; rfl) ?_
  simp only [Act.put, List.setIfInBounds_toArray, List.set_cons_succ, List.set_cons_zero]
  refine plan_done ?fin102
  rw [HQ.out, HFA.out]
  clear a0 a1 a2 a3 hal hc1 htl
  have HX4 := hid_mk (Ext.trans W2 _ _ HX3.out (Ext.trans _ _ _ (by (repeat (first | exact Ext.refl _ | apply Ext.drew_left | apply Ext.drew | apply Ext.alloc))) HZ.out))
  have HT4 := hid_mk (H2.out.ext HX4.out)
  obtain ⟨W4, hW4⟩ : ∃ W, v101 = W := ⟨_, rfl⟩
  rw [hW4] at HX4 HT4 HZ ⊢
  have HA4 := hid_mk (HA3.out.ext (Ext.trans _ _ _ (by (repeat (first | exact Ext.refl _ | apply Ext.drew_left | apply Ext.drew | apply Ext.alloc))) HZ.out))
  clear hW4 HZ HA3 HX3
  obtain ⟨a0, a1, a2, a3⟩ := HA4.out
  simp only [Nat.zero_add] at a0 a1 a2 a3
  have hal := cell_lt a0
  have hc1 := HT4.out.c1
  have htl := cell_lt hc1
  have HLT := hid_mk HT4.out.lt
  have HAL := hid_mk (show ab ∉ (Value.slice va (del n l).length vc).ownBlock.toList by
    intro hm
    have := H2.out.lt.2.2.1 ab (by simpa using hm)
    have := HAB.out
    omega)
  have HTL := hid_mk (show tb ∉ (Value.slice va (del n l).length vc).ownBlock.toList by
    intro hm
    exact HLT.out.2.2.2.2.1 (by simpa using hm))
  obtain ⟨ob, hob⟩ : ∃ ob, (Value.slice va (del n l).length vc).ownBlock.toList = ob := ⟨_, rfl⟩
  rw [hob] at HAL HTL
  have HOB := hid_mk hob
  clear hob
  go_wp2_with fail
  refine wp_region_held_planC (Xl ob) (fun i => i != 11) (fun i => [0, 1, 2, 3, 5, 9, 10].contains i) (.quiet 0 (.quiet 1 (.quiet 2 (.quiet 3 (.quiet 4 (.quiet 5 (.quiet 6 (.alt 7 (.alt 8 (.quiet 9 (.quiet 10 (.alt 11 .done .stop))) .stop) .stop)))))))) (by kernel_rfl) (by kernel_rfl) Xl.refl Xl.trans (by intro c a w d v h; cases d <;> exact h) (fun ops HO => ?_)
  refine planC_calm _ (hi_of HO rfl) rfl (fun w' => by go_simp; rfl) ?_
  simp only [Act.put, List.setIfInBounds_toArray, List.set_cons_succ, List.set_cons_zero]
  refine planC_calm _ (hi_of HO rfl) rfl (fun w' => by go_simp; rfl) ?_
  simp only [Act.put, List.setIfInBounds_toArray, List.set_cons_succ, List.set_cons_zero]
  refine planC_calm _ (hi_of HO rfl) rfl (fun w' => by go_simp; rfl) ?_
  simp only [Act.put, List.setIfInBounds_toArray, List.set_cons_succ, List.set_cons_zero]
  refine planC_calm _ (hi_of HO rfl) rfl (fun w' => by go_simp; rfl) ?_
  simp only [Act.put, List.setIfInBounds_toArray, List.set_cons_succ, List.set_cons_zero]
  refine planC_read _ (hi_of HO rfl) rfl rfl (fun w' hE => by have hcE := hE.cell (k := tb) (o := 1) htl HTL.out; clear hE; go_simp; rfl) ?_
  simp only [Act.put, List.setIfInBounds_toArray, List.set_cons_succ, List.set_cons_zero]
  refine planC_calm _ (hi_of HO rfl) rfl (fun w' => by go_simp; rfl) ?_
  simp only [Act.put, List.setIfInBounds_toArray, List.set_cons_succ, List.set_cons_zero]
  refine planC_read _ (hi_of HO rfl) rfl rfl (fun w' hE => by have hcE := fun o => hE.cell (k := ab) (o := o) hal HAL.out; clear hE; go_simp; rfl) ?_
  simp only [Act.put, List.setIfInBounds_toArray, List.set_cons_succ, List.set_cons_zero]
  refine planC_loud1 (hi_of HO rfl) rfl ?_
  go_simp
  refine ⟨Xl.of (by (repeat (first | exact Ext.refl _ | apply Ext.drew_left | apply Ext.drew | apply Ext.alloc))), ?_⟩
  have hx5 : Ext W4 ((W4.alloc (.cells #[.int .i64 n.1, .int .i64 n.2.1, .int .i64 n.2.2, .int .i64 t] 106)).drew) := by (repeat (first | exact Ext.refl _ | apply Ext.drew_left | apply Ext.drew | apply Ext.alloc))
  have ho5 : OneA ((W4.alloc (.cells #[.int .i64 n.1, .int .i64 n.2.1, .int .i64 n.2.2, .int .i64 t] 106)).drew) W4.heap.size (n, t) := heap_alloc_new W4 _
  generalize (W4.alloc (.cells #[.int .i64 n.1, .int .i64 n.2.1, .int .i64 n.2.2, .int .i64 t] 106)).drew = W5 at *
  have HX5 := hid_mk hx5
  have HO5 := hid_mk ho5
  have HOW := hid_mk (show (Value.slice va (del n l).length vc).ownBlock ≠ some W4.heap.size by
  intro e
  have := (HLT.out.2.2.1 _ e).2
  omega)
  have HTB5 := hid_mk ((hx5.below.block tb htl).trans HT4.out.blk)
  clear hx5 ho5
  refine planC_call1 en_SIns (hi_of HO rfl) rfl rfl (by go_simp; rfl) (by exact insert_any (own_ext HT4.out.own HX5.out) HO5.out HOW.out HQB.out (by have := HL2.out; omega) (Nat.le_trans HT4.out.lo.2.2 HX5.out.below.size)) ?_
  rintro e W6 ⟨v6, rfl, ho6, hg6, hb6⟩
  have hx6 : Xl ob W5 W6 := by rw [← HOB.out]; exact xl_grownBy hg6
  refine ⟨_, rfl, fun _ => hx6, ?_⟩
  have hset : (del n l).take q ++ (n, t) :: (del n l).drop q = setA n t l := by unfold setA insA; rw [HQ.out]
  rw [hset] at ho6
  obtain ⟨a6, c6, rfl⟩ := own_form ho6
  have hb6' : W6.heap[tb]? = some (.cells #[.map (some mb), .slice va (del n l).length vc] 104 (0, 0)) := (hx6.block tb (Nat.lt_of_lt_of_le htl HX5.out.below.size) HTL.out).trans HTB5.out
  have HX6 := hid_mk (Xl.trans W4 _ _ (Xl.of HX5.out) hx6)
  have HB6 := hid_mk hb6'
  have HO6 := hid_mk ho6
  have HOB6 := hid_mk (show (Value.slice a6 (setA n t l).length c6).ownBlock = (Value.slice va (del n l).length vc).ownBlock ∨ ∃ g, W4.heap.size ≤ g ∧ (Value.slice a6 (setA n t l).length c6).ownBlock = some g from hb6.imp id (fun ⟨g, h1, h2⟩ => ⟨g, Nat.le_trans HX5.out.below.size h1, h2⟩))
  have c6' : W6.cell? ⟨tb, 1, none⟩ = some (.slice va (del n l).length vc) := by simp [World.cell?, hb6']
  have f6' : W6.frozen? ⟨tb, 1, none⟩ = false := by simp [World.frozen?, hb6']
  have htl6 := cell_lt c6'
  clear hx6 hset ho6 hg6 hb6 hb6'
  simp only [Act.put, List.setIfInBounds_toArray, List.set_cons_succ, List.set_cons_zero]
  refine planC_calm _ (hi_of HO rfl) rfl (fun w' => by go_simp; rfl) ?_
  simp only [Act.put, List.setIfInBounds_toArray, List.set_cons_succ, List.set_cons_zero]
  refine planC_calm _ (hi_of HO rfl) rfl (fun w' => by go_simp; rfl) ?_
  simp only [Act.put, List.setIfInBounds_toArray, List.set_cons_succ, List.set_cons_zero]
  refine planC_loud1 (hi_of HO rfl) rfl ?_
  go_simp
  skip
  refine planC_done ?fin103
  obtain ⟨W7, hW7⟩ : ∃ W, W6.setCell ⟨tb, 1, none⟩ (.slice a6 (setA n t l).length c6) = W := ⟨_, rfl⟩
  have hx7 : Xl [tb] W6 W7 := by rw [← hW7]; exact (Xl.refl W6).set (by simp)
  have hb7 : W7.heap[tb]? = some (.cells #[.map (some mb), .slice a6 (setA n t l).length c6] 104 (0, 0)) := by rw [← hW7]; exact blk_set HB6.out
  rw [hW7]
  clear hW7 c6' f6' htl6 a0 a1 a2 a3 hal hc1 htl
  have hobw : w.heap.size ∉ ob := by
    rw [← HOB.out, K3.out]
    intro hm
    have := (H.out.lt.2.2.1 _ (by simpa using hm)).2
    omega
  have hobm : mb ∉ ob := by
    rw [← HOB.out]
    intro hm
    exact HLT.out.2.2.2.2.2 (by simpa using hm)
  have hwt := H.out.lt
  have hmt := HLT.out.2.2.2.1
  have HX7 := hid_mk hx7
  have HB7 := hid_mk hb7
  have hnm := ((HB2.out.ext HX4.out).xl HX6.out hobw).xl hx7 (by have := hwt.1; simp; omega)
  have ho7 : OwnA W7 B 106 (.slice a6 (setA n t l).length c6) (setA n t l) := xl_grown hx7 (by
    intro g hg hm
    simp at hm
    subst hm
    rcases HOB6.out with e | ⟨g', e1, e2⟩
    · rw [e] at hg; exact HLT.out.2.2.2.2.1 hg
    · rw [e2] at hg; cases hg; have := HLT.out.1; omega) HO6.out
  obtain ⟨M, hm, hnd, hM⟩ := H2.out.map
  have hm7 := ((hm.xl (L := []) (Xl.of HX4.out) (by simp)).xl HX6.out hobm).xl hx7 (by simp; exact fun e => hmt e.symm)
  obtain ⟨W8, hrun, hm8, hx8⟩ := map_store key_nm Try.underlying101 (w := W7.drew) (hm7.xl (L := []) (Xl.of ((Ext.refl W7).drew)) (by simp)) n t
  have hx8' : Xl [mb] W7 W8 := Xl.trans _ _ _ (Xl.of ((Ext.refl W7).drew)) hx8
  have hall : Xl (tb :: mb :: v.ownBlock.toList) w W8 := by
    refine Xl.trans _ _ _ HX2.out (Xl.trans _ _ _ (Xl.of HX4.out) (Xl.trans _ _ _ (HX6.out.mono' ?_) (Xl.trans _ _ _ (hx7.mono' (by simp)) (hx8'.mono' (by simp)))))
    intro k hk
    rw [← HOB.out, K3.out] at hk
    simp at hk ⊢
    exact .inr (.inr hk)
  have HP : Hid (TPost B w tb mb v (setA n t l) W8) := hid_mk ⟨.slice a6 (setA n t l).length c6, ⟨(hx8'.block tb (Array.getElem?_eq_some_iff.1 hb7).1 (by simpa using hmt)).trans hb7,
    xl_grown hx8' (by
      intro g hg hm
      simp at hm
      subst hm
      rcases HOB6.out with e | ⟨g', e1, e2⟩
      · rw [e] at hg; exact HLT.out.2.2.2.2.2 hg
      · rw [e2] at hg; cases hg; have := HLT.out.2.1; omega) ho7, ⟨mset n t M, hm8, mset_nod hnd, map_set hM H.out.ok⟩, ok_setA H.out.ok,
    ⟨H.out.lo.1, H.out.lo.2.1, Nat.le_trans H.out.lo.2.2 hall.size⟩⟩, hall, by
      rcases HOB6.out with e | ⟨g', e1, e2⟩
      · left; rw [e, K3.out]
      · right; exact ⟨g', Nat.le_trans (Nat.le_trans HX2.out.size HX4.out.below.size) e1, e2⟩⟩
  have c0 : W7.cell? ⟨tb, 0, none⟩ = some (.map (some mb)) := by simp [World.cell?, hb7]
  have htl := cell_lt c0
  obtain ⟨b0, b1, b2⟩ := hnm
  have hbl := cell_lt b0
  have HRUN := hid_mk hrun
  clear hrun hm8 hx8 hx8' hall hm7 hm hnd hM ho7 hb7 hx7 hobw hobm hwt hmt
  go_wp2_with fail
  refine wp_region_held_planC Ext (fun i => i != 6) (fun i => [0, 1, 2, 5].contains i) (.quiet 0 (.quiet 1 (.quiet 2 (.quiet 3 (.quiet 4 (.quiet 5 (.alt 6 .done .stop))))))) (by kernel_rfl) (by kernel_rfl) Ext.refl Ext.trans (by intro c a w d v h; cases d <;> exact h) (fun ops HO => ?_)
  refine planC_calm _ (hi_of HO rfl) rfl (fun w' => by go_simp; rfl) ?_
  simp only [Act.put, List.setIfInBounds_toArray, List.set_cons_succ, List.set_cons_zero]
  refine planC_calm _ (hi_of HO rfl) rfl (fun w' => by go_simp; rfl) ?_
  simp only [Act.put, List.setIfInBounds_toArray, List.set_cons_succ, List.set_cons_zero]
  refine planC_calm _ (hi_of HO rfl) rfl (fun w' => by go_simp; rfl) ?_
  simp only [Act.put, List.setIfInBounds_toArray, List.set_cons_succ, List.set_cons_zero]
  refine planC_read _ (hi_of HO rfl) rfl rfl (fun w' hE => by (repeat (with_reducible replace hE := Ext.unD hE)); have hcE := hE.hc; clear hE; go_simp; rfl) ?_
  simp only [Act.put, List.setIfInBounds_toArray, List.set_cons_succ, List.set_cons_zero]
  refine planC_read _ (hi_of HO rfl) rfl rfl (fun w' hE => by (repeat (with_reducible replace hE := Ext.unD hE)); have hcE := hE.hc; clear hE; go_simp; rfl) ?_
  simp only [Act.put, List.setIfInBounds_toArray, List.set_cons_succ, List.set_cons_zero]
  refine planC_calm _ (hi_of HO rfl) rfl (fun w' => by go_simp; rfl) ?_
  simp only [Act.put, List.setIfInBounds_toArray, List.set_cons_succ, List.set_cons_zero]
  have hrun := HRUN.out
  refine planC_loud1 (hi_of HO rfl) rfl ?_
  go_simp
  clear hrun
  refine planC_done ?fin104
  go_wp2
  go_ret
  exact ⟨rfl, HP.out⟩
end Go.Proofs.Ytiimoaplhhnklaa
