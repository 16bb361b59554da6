/- The document's timers in memory: Set. -/
import Derived.Test.YtiimoaplhhnklaaSL
namespace Go.Proofs.Ytiimoaplhhnklaa
open Go.RowKit
set_option maxHeartbeats 4000000
set_option maxRecDepth 100000
set_option linter.unusedSimpArgs false
set_option linter.unusedVariables false
attribute [-go_sem] Builtin.append_

theorem AlsAt.take {w : World} {g : Nat} {l : List Al} (h : AlsAt w g l) (k : Nat) : AlsO w g 0 (l.take k) := fun i hi => by
  have hi' : i < l.length := by rw [List.length_take] at hi; omega
  rw [List.getElem_take, Nat.zero_add]
  exact h i hi'
theorem AlsAt.drop {w : World} {g : Nat} {l : List Al} (h : AlsAt w g l) (k : Nat) : AlsO w g (k * 4) (l.drop k) := fun i hi => by
  rw [List.length_drop] at hi
  rw [List.getElem_drop, show k * 4 + i * 4 = (k + i) * 4 by omega]
  exact h (k + i) (by omega)
theorem rset_any {B : Nat} {w : World} {rb : Nat} {v : Value} {l : List Al} (h : RTm B w rb v l) (hok : Ok l) (n : Nm) (t : Int) (hl : l.length ≤ 100000000000) :
    Calls Try.prog 52 #[.pointer (some ⟨rb, 0, none⟩), nmV n, .int .i64 t] w fun e w' => e = .returned (.int .i64 (if badT t then 1 else 0)) ∧ RPost B w rb v (setL n t l) w' := by
  have H := hid_mk h
  have HOK := hid_mk hok
  have HLEN := hid_mk hl
  clear hok hl
  by_cases h1 : t < 0
  · have e : badT t = true := by simp [badT, h1]
    unfold setL
    rw [if_pos e, if_pos e]
    clear h
    go_enter Try.func52, Try.ntmps52
    go_wp2
    go_ret
    exact ⟨rfl, rpost_ext H.out (by (repeat (first | exact Ext.refl _ | apply Ext.drew_left | apply Ext.drew | apply Ext.alloc)))⟩
  by_cases h2 : 1099511627776 < t
  · have e : badT t = true := by simp [badT, h2]
    unfold setL
    rw [if_pos e, if_pos e]
    clear h
    go_enter Try.func52, Try.ntmps52
    go_wp2
    go_ret
    exact ⟨rfl, rpost_ext H.out (by (repeat (first | exact Ext.refl _ | apply Ext.drew_left | apply Ext.drew | apply Ext.alloc)))⟩
  have e : ¬ badT t = true := by unfold badT; rw [decide_eq_false h1, decide_eq_false h2]; simp
  unfold setL
  rw [if_neg e, if_neg e]
  obtain ⟨va, vc, rfl⟩ := own_form h.own
  clear e h
  go_enter Try.func52, Try.ntmps52
  go_wp2_with fail
  have hnb : NmAt (w.alloc (.cells #[.int .i64 n.1, .int .i64 n.2.1, .int .i64 n.2.2] 54)) w.heap.size n := ⟨newc rfl, newc rfl, newc rfl⟩
  refine (without_any (H.out.ext (by (repeat (first | exact Ext.refl _ | apply Ext.drew_left | apply Ext.drew | apply Ext.alloc)))) n HLEN.out).mono ?_
  rintro e W2 ⟨v1, rfl, ho, hss, hx⟩
  obtain ⟨b0, b1, b2⟩ := hnb.ext hx
  have hbl := cell_lt b0
  have HX2 := hid_mk (Ext.trans w _ _ (by (repeat (first | exact Ext.refl _ | apply Ext.drew_left | apply Ext.drew | apply Ext.alloc))) hx)
  have HOW2 := hid_mk (show OwnA W2 w.heap.size 82 v1 (del n l) from OwnA.lower ho (by simp))
  have HOKD := hid_mk (ok_del (n := n) HOK.out)
  have hdl := del_len_le n l
  have HSET := hid_mk (show setA n t l = (del n l).take (pos (n, t) (del n l)) ++ (n, t) :: (del n l).drop (pos (n, t) (del n l)) from rfl)
  obtain ⟨l1, hl1⟩ : ∃ l1, del n l = l1 := ⟨_, rfl⟩
  rw [hl1] at HOW2 HOKD hdl HSET
  have HLL := hid_mk (show l1.length ≤ 100000000000 from Nat.le_trans hdl HLEN.out)
  have hkl := pos_le (n, t) l1
  have HPOS := hid_mk (fun j (hj : j < pos (n, t) l1) => pos_lt hj)
  have HPGE := hid_mk (fun (h : pos (n, t) l1 < l1.length) => pos_ge h)
  obtain ⟨k, hk⟩ : ∃ k, pos (n, t) l1 = k := ⟨_, rfl⟩
  rw [hk] at hkl HSET
  have HK := hid_mk hk
  have HKL := hid_mk hkl
  obtain ⟨q, hq⟩ : ∃ q, l1.length = q := ⟨_, rfl⟩
  have HQ := hid_mk hq
  have hsl := HOW2.out.sl (by rw [hq]; have := HLL.out; omega)
  obtain ⟨la, lc, rfl, hlc, -, -, hcells⟩ := hsl
  obtain ⟨g, gn, gc, hss⟩ := hss
  obtain ⟨rfl, -, -⟩ : la = some ⟨g, 0, none⟩ ∧ l1.length = gn ∧ lc = gc := by simpa using hss
  have HC := hid_mk (show AlsAt W2 g l1 from fun i hi => by
    obtain ⟨b, e, h⟩ := hcells (by omega)
    cases e
    exact h i hi)
  rw [hl1] at ho
  clear ho hx hnb hdl hkl hk hcells hl1 hss
  rw [hq] at hlc ⊢
  clear hq
  go_wp2_with fail
  obtain ⟨W3, hW3⟩ : ∃ W, W2.alloc (.cells #[.int .i64 n.1, .int .i64 n.2.1, .int .i64 n.2.2, .int .i64 t] 82) = W := ⟨_, rfl⟩
  have hx3 : Ext W2 W3 := by rw [← hW3]; exact (Ext.refl W2).alloc _
  have ha3 : AlAt W3 W2.heap.size 0 (n, t) := by rw [← hW3]; exact ⟨newc rfl, newc rfl, newc rfl, newc rfl⟩
  rw [hW3]
  clear hW3 b0 b1 b2 hbl
  obtain ⟨ab, hab⟩ : ∃ ab, W2.heap.size = ab := ⟨_, rfl⟩
  simp only [hab] at ha3 ⊢
  clear hab
  have HA3 := hid_mk ha3
  have HX3 := hid_mk hx3
  clear ha3 hx3
  go_loopw [9] (fun x wr => ∃ j : Nat, j ≤ k ∧ x = .int .i64 (j : Int) ∧ Ext W3 wr) (fun x _ => k - (intOf x).toNat)
  case atStart => exact ⟨0, Nat.zero_le _, rfl, Ext.refl _⟩
  case round =>
    obtain ⟨j, hj, rfl, hx⟩ := hrel
    have HX := hid_mk hx
    obtain ⟨a0, a1, a2, a3⟩ := HA3.out.ext hx
    simp only [Nat.zero_add] at a0 a1 a2 a3
    have hal := cell_lt a0
    have HXG := hid_mk (Ext.trans _ _ _ HX3.out hx)
    have hkq : k ≤ q := by rw [← HQ.out]; exact HKL.out
    clear hx
    by_cases hjk : j < k
    · have hjl : j < l1.length := by rw [HQ.out]; omega
      obtain ⟨r0, r1, r2, r3⟩ := (HC.out j hjl).ext HXG.out
      have hgl := cell_lt r0
      have hlt := HPOS.out j (by rw [HK.out]; exact hjk)
      obtain ⟨y, hy⟩ : ∃ y, l1[j] = y := ⟨_, rfl⟩
      rw [hy] at r0 r1 r2 r3 hlt
      have HD := hid_mk (decide_eq_true hlt)
      have hj1 : (j : Int) < (q : Int) := by omega
      have hj0 : (0 : Int) ≤ (j : Int) := by omega
      have hw1 : wrap64 ((j : Int) + 1) = (j : Int) + 1 := w64in (by have := HLL.out; have := HQ.out; omega)
      have HW1 := hid_mk hw1
      clear hy hlt hw1
      go_wp2_with fail
      refine wp_region_held_below (fun _ => true) (.quiet 0 (.quiet 1 (.quiet 2 (.quiet 3 (.quiet 4 (.quiet 5 (.quiet 6 (.quiet 7 (.quiet 8 (.quiet 9 (.alt 10 (.quiet 11 .done) .stop))))))))))) (by kernel_rfl) (by kernel_rfl) (by intro c a w d v h; cases d <;> exact h) (fun ops HO => ?_)
      refine plan_read _ (hi_of HO rfl) rfl (fun w' hE => by (repeat (with_reducible replace hE := Ext.unD hE)); have hcE := hE.hc; clear hE; go_simp; rfl) ?_
      simp only [Act.put, List.setIfInBounds_toArray, List.set_cons_succ, List.set_cons_zero]
      refine plan_read _ (hi_of HO rfl) rfl (fun w' hE => by (repeat (with_reducible replace hE := Ext.unD hE)); have hcE := hE.hc; clear hE; go_simp; rfl) ?_
      simp only [Act.put, List.setIfInBounds_toArray, List.set_cons_succ, List.set_cons_zero]
      refine plan_read _ (hi_of HO rfl) rfl (fun w' hE => by (repeat (with_reducible replace hE := Ext.unD hE)); have hcE := hE.hc; clear hE; go_simp; rfl) ?_
      simp only [Act.put, List.setIfInBounds_toArray, List.set_cons_succ, List.set_cons_zero]
      refine plan_read _ (hi_of HO rfl) rfl (fun w' hE => by (repeat (with_reducible replace hE := Ext.unD hE)); have hcE := hE.hc; clear hE; go_simp; rfl) ?_
      simp only [Act.put, List.setIfInBounds_toArray, List.set_cons_succ, List.set_cons_zero]
      refine plan_read _ (hi_of HO rfl) rfl (fun w' hE => by (repeat (with_reducible replace hE := Ext.unD hE)); have hcE := hE.hc; clear hE; go_simp; rfl) ?_
      simp only [Act.put, List.setIfInBounds_toArray, List.set_cons_succ, List.set_cons_zero]
      refine plan_read _ (hi_of HO rfl) (by rw [HO.out]; rfl) (fun w' hE => by (repeat (with_reducible replace hE := Ext.unD hE)); have hcE := hE.hc; clear hE; go_simp; rfl) ?_
      simp only [Act.put, List.setIfInBounds_toArray, List.set_cons_succ, List.set_cons_zero]
      refine plan_read _ (hi_of HO rfl) (by rw [HO.out]; rfl) (fun w' hE => by (repeat (with_reducible replace hE := Ext.unD hE)); have hcE := hE.hc; clear hE; go_simp; rfl) ?_
      simp only [Act.put, List.setIfInBounds_toArray, List.set_cons_succ, List.set_cons_zero]
      refine plan_read _ (hi_of HO rfl) (by rw [HO.out]; rfl) (fun w' hE => by (repeat (with_reducible replace hE := Ext.unD hE)); have hcE := hE.hc; clear hE; go_simp; rfl) ?_
      simp only [Act.put, List.setIfInBounds_toArray, List.set_cons_succ, List.set_cons_zero]
      refine plan_read _ (hi_of HO rfl) (by rw [HO.out]; rfl) (fun w' hE => by (repeat (with_reducible replace hE := Ext.unD hE)); have hcE := hE.hc; clear hE; go_simp; rfl) ?_
      simp only [Act.put, List.setIfInBounds_toArray, List.set_cons_succ, List.set_cons_zero]
      refine plan_read _ (hi_of HO rfl) (by rw [HO.out]; rfl) (fun w' hE => by (repeat (with_reducible replace hE := Ext.unD hE)); have hcE := hE.hc; clear hE; go_simp; rfl) ?_
      simp only [Act.put, List.setIfInBounds_toArray, List.set_cons_succ, List.set_cons_zero]
      refine plan_call1 en_rTmFirst (hi_of HO rfl) (by rw [HO.out]; rfl) rfl (by go_simp; rfl) (by exact (by have h9 := rfirst_any y (n, t) (wr.drew); rw [HD.out] at h9; exact h9)) ?_
      rintro e v101 ⟨rfl, hx101⟩
      refine ⟨_, rfl, fun _ => hx101, ?_⟩
      have hy101 := hid_mk (by first | (with_reducible exact Ext.unD hx101) | exact hx101 : Ext _ v101)
      have hc101 := hx101.hc; have hl101 := hx101.hl; have he101 := hx101.hle; have hn101 := hx101.hne; replace hx101 := hid_mk hx101
      simp only [Act.put, List.setIfInBounds_toArray, List.set_cons_succ, List.set_cons_zero]
      have HQZ := hy101
      refine plan_read _ (hi_of HO rfl) rfl (fun w' hE => by have hcE := (Ext.trans _ _ _ (by (repeat (first | exact hx101.out | apply Ext.drew | apply Ext.alloc))) hE).hc; (repeat (with_reducible replace hE := Ext.unD hE)); have hcF := hE.hc; clear hE; go_simp; rfl) ?_
      simp only [Act.put, List.setIfInBounds_toArray, List.set_cons_succ, List.set_cons_zero]
      refine plan_done ?fin102
      go_wp2
      go_roundw
      case rel => exact ⟨j + 1, hjk, (by first | exact congrArg (Value.int .i64) HW1.out | rfl), Ext.trans _ _ _ HX.out (by first | exact HQZ.out | exact Ext.drew HQZ.out)⟩
      case measure => (try simp only [HW1.out]); simp [intOf]; first | done | omega
    · obtain rfl : j = k := by omega
      have hk0 : (0 : Int) ≤ (j : Int) := by omega
      have hk1 : (j : Int) ≤ (q : Int) := by omega
      have hk2 : (j : Int) ≤ (lc : Int) := by omega
      have hk3 : (q : Int) ≤ (lc : Int) := by omega
      by_cases hjq : j < q
      · have hjl : j < l1.length := by rw [HQ.out]; omega
        obtain ⟨r0, r1, r2, r3⟩ := (HC.out j hjl).ext HXG.out
        have hgl := cell_lt r0
        have hge : ¬ aLt l1[j] (n, t) := by
          have h9 := HPGE.out (by rw [HK.out]; exact hjl)
          have e : pos (n, t) l1 = j := HK.out
          simp only [e] at h9
          exact h9
        obtain ⟨y, hy⟩ : ∃ y, l1[j] = y := ⟨_, rfl⟩
        rw [hy] at r0 r1 r2 r3 hge
        have HD := hid_mk (decide_eq_false hge)
        have hj1 : (j : Int) < (q : Int) := by omega
        clear hy hge
        go_wp2_with fail
        refine wp_region_held_below (fun _ => true) (.quiet 0 (.quiet 1 (.quiet 2 (.quiet 3 (.quiet 4 (.quiet 5 (.quiet 6 (.quiet 7 (.quiet 8 (.quiet 9 (.alt 10 (.quiet 11 .done) .stop))))))))))) (by kernel_rfl) (by kernel_rfl) (by intro c a w d v h; cases d <;> exact h) (fun ops HO => ?_)
        refine plan_read _ (hi_of HO rfl) rfl (fun w' hE => by (repeat (with_reducible replace hE := Ext.unD hE)); have hcE := hE.hc; clear hE; go_simp; rfl) ?_
        simp only [Act.put, List.setIfInBounds_toArray, List.set_cons_succ, List.set_cons_zero]
        refine plan_read _ (hi_of HO rfl) rfl (fun w' hE => by (repeat (with_reducible replace hE := Ext.unD hE)); have hcE := hE.hc; clear hE; go_simp; rfl) ?_
        simp only [Act.put, List.setIfInBounds_toArray, List.set_cons_succ, List.set_cons_zero]
        refine plan_read _ (hi_of HO rfl) rfl (fun w' hE => by (repeat (with_reducible replace hE := Ext.unD hE)); have hcE := hE.hc; clear hE; go_simp; rfl) ?_
        simp only [Act.put, List.setIfInBounds_toArray, List.set_cons_succ, List.set_cons_zero]
        refine plan_read _ (hi_of HO rfl) rfl (fun w' hE => by (repeat (with_reducible replace hE := Ext.unD hE)); have hcE := hE.hc; clear hE; go_simp; rfl) ?_
        simp only [Act.put, List.setIfInBounds_toArray, List.set_cons_succ, List.set_cons_zero]
        refine plan_read _ (hi_of HO rfl) rfl (fun w' hE => by (repeat (with_reducible replace hE := Ext.unD hE)); have hcE := hE.hc; clear hE; go_simp; rfl) ?_
        simp only [Act.put, List.setIfInBounds_toArray, List.set_cons_succ, List.set_cons_zero]
        refine plan_read _ (hi_of HO rfl) (by rw [HO.out]; rfl) (fun w' hE => by (repeat (with_reducible replace hE := Ext.unD hE)); have hcE := hE.hc; clear hE; go_simp; rfl) ?_
        simp only [Act.put, List.setIfInBounds_toArray, List.set_cons_succ, List.set_cons_zero]
        refine plan_read _ (hi_of HO rfl) (by rw [HO.out]; rfl) (fun w' hE => by (repeat (with_reducible replace hE := Ext.unD hE)); have hcE := hE.hc; clear hE; go_simp; rfl) ?_
        simp only [Act.put, List.setIfInBounds_toArray, List.set_cons_succ, List.set_cons_zero]
        refine plan_read _ (hi_of HO rfl) (by rw [HO.out]; rfl) (fun w' hE => by (repeat (with_reducible replace hE := Ext.unD hE)); have hcE := hE.hc; clear hE; go_simp; rfl) ?_
        simp only [Act.put, List.setIfInBounds_toArray, List.set_cons_succ, List.set_cons_zero]
        refine plan_read _ (hi_of HO rfl) (by rw [HO.out]; rfl) (fun w' hE => by (repeat (with_reducible replace hE := Ext.unD hE)); have hcE := hE.hc; clear hE; go_simp; rfl) ?_
        simp only [Act.put, List.setIfInBounds_toArray, List.set_cons_succ, List.set_cons_zero]
        refine plan_read _ (hi_of HO rfl) (by rw [HO.out]; rfl) (fun w' hE => by (repeat (with_reducible replace hE := Ext.unD hE)); have hcE := hE.hc; clear hE; go_simp; rfl) ?_
        simp only [Act.put, List.setIfInBounds_toArray, List.set_cons_succ, List.set_cons_zero]
        refine plan_call1 en_rTmFirst (hi_of HO rfl) (by rw [HO.out]; rfl) rfl (by go_simp; rfl) (by exact (by have h9 := rfirst_any y (n, t) (wr.drew); rw [HD.out] at h9; exact h9)) ?_
        rintro e v103 ⟨rfl, hx103⟩
        refine ⟨_, rfl, fun _ => hx103, ?_⟩
        have hy103 := hid_mk (by first | (with_reducible exact Ext.unD hx103) | exact hx103 : Ext _ v103)
        have hc103 := hx103.hc; have hl103 := hx103.hl; have he103 := hx103.hle; have hn103 := hx103.hne; replace hx103 := hid_mk hx103
        simp only [Act.put, List.setIfInBounds_toArray, List.set_cons_succ, List.set_cons_zero]
        have HQZ := hy103
        refine plan_read _ (hi_of HO rfl) rfl (fun w' hE => by have hcE := (Ext.trans _ _ _ (by (repeat (first | exact hx103.out | apply Ext.drew | apply Ext.alloc))) hE).hc; (repeat (with_reducible replace hE := Ext.unD hE)); have hcF := hE.hc; clear hE; go_simp; rfl) ?_
        simp only [Act.put, List.setIfInBounds_toArray, List.set_cons_succ, List.set_cons_zero]
        refine plan_done ?fin104
        refine gen_world (P := Try.prog) (fun W6 => Ext wr W6) (by first | exact HQZ.out | exact Ext.drew HQZ.out) ?_
        intro W6 hx6
        have HX6 := hid_mk (Ext.trans _ _ _ HX2.out (Ext.trans _ _ _ HXG.out hx6))
        have HA6 := hid_mk (HA3.out.ext (Ext.trans _ _ _ HX.out hx6))
        have HC6 := hid_mk (HC.out.ext (Ext.trans _ _ _ HXG.out hx6))
        have hcj : ¬ (lc = j) := by omega
        clear hx6 r0 r1 r2 r3 hgl a0 a1 a2 a3 hal hj1
        obtain ⟨v7, W7, hrun7, ho7, hg7⟩ := append_some (w := W6.alloc (.cells #[] 82)) (B := W6.heap.size) (c := lc) (own_empty (heap_alloc_new W6 _) (Nat.le_refl _)) ((HC6.out.ext ((Ext.refl W6).alloc _)).take j) (by simp; have := HLL.out; have := HKL.out; omega) (by simp)
        have hx7 : Ext W6 W7 := ext_grown ((Ext.refl W6).alloc _) hg7 (own_empty (heap_alloc_new W6 _) (Nat.le_refl _)) (Nat.le_refl _)
        rw [List.nil_append] at ho7
        obtain ⟨o7a, o7c, rfl⟩ := own_form ho7
        obtain ⟨a0, a1, a2, a3⟩ := HA6.out.ext hx7
        simp only [Nat.zero_add] at a0 a1 a2 a3
        have hal := cell_lt a0
        obtain ⟨v8, W8, hrun8, ho8, hg8⟩ := append_one (w := W7.alloc (.cells #[.int .i64 n.1, .int .i64 n.2.1, .int .i64 n.2.2, .int .i64 t] 82)) (c := 1) (own_ext ho7 ((Ext.refl W7).alloc _)) (b := W7.heap.size) (x := (n, t)) ⟨newc rfl, newc rfl, newc rfl, newc rfl⟩ (by have := HLL.out; rw [List.length_take]; omega) (by have := hx7.below.size; simp; omega)
        have hx8 : Ext W6 W8 := ext_grown (hx7.alloc _) hg8 (own_ext ho7 ((Ext.refl W7).alloc _)) (Nat.le_refl _)
        obtain ⟨o8a, o8c, rfl⟩ := own_form ho8
        obtain ⟨v9, W9, hrun9, ho9, hg9⟩ := append_some (w := W8) (c := (lc - j)) ho8 ((HC6.out.ext hx8).drop j) (by have := HLL.out; have := HKL.out; rw [List.length_append, List.length_take, List.length_drop, List.length_singleton]; omega) hx8.below.size
        have hx9 : Ext W6 W9 := ext_grown hx8 hg9 ho8 (Nat.le_refl _)
        have hset : l1.take j ++ [(n, t)] ++ l1.drop j = setA n t l := by rw [HSET.out, List.append_assoc]; rfl
        rw [hset] at ho9
        obtain ⟨o9a, o9c, rfl⟩ := own_form ho9
        have HX9 := hid_mk (Ext.trans _ _ _ HX6.out hx9)
        have hlt1 : (l1.take j).length = j := by rw [List.length_take]; have := HKL.out; omega
        have hlt2 : (l1.drop j).length = q - j := by rw [List.length_drop, HQ.out]
        have hlt3 : (l1.take j ++ [(n, t)]).length = j + 1 := by rw [List.length_append, hlt1]; rfl
        rw [hlt1] at hrun7 hrun8
        rw [hlt2] at hrun9
        rw [hlt3] at hrun8 hrun9
        have HP : Hid (RPost B w rb (.slice va l.length vc) (setA n t l) (W9.setCell ⟨rb, 0, none⟩ (.slice o9a (setA n t l).length o9c))) := hid_mk (H.out.store HX9.out (OwnA.lower ho9 HX6.out.below.size))
        have h1 := (H.out.ext HX9.out).c0
        have f1 := (H.out.ext HX9.out).f0
        have hrl := cell_lt h1
        clear hx7 ho7 hg7 hx8 ho8 hg8 ho9 hg9 hx9 hset hlt1 hlt2 hlt3
        go_wp2
        go_ret
        exact ⟨rfl, HP.out⟩
      · have hqj : q = j := by omega
        have hj1 : ¬ ((j : Int) < (q : Int)) := by omega
        have hd0 : l1.drop j = [] := by rw [List.drop_eq_nil_iff]; have := HQ.out; omega
        go_wp2_with fail
        refine wp_region_held_below (fun _ => true) (.quiet 0 (.quiet 1 (.quiet 2 (.quiet 3 (.quiet 4 (.quiet 5 (.quiet 6 (.quiet 7 (.quiet 8 (.quiet 9 (.alt 10 (.quiet 11 .done) .stop))))))))))) (by kernel_rfl) (by kernel_rfl) (by intro c a w d v h; cases d <;> exact h) (fun ops HO => ?_)
        refine plan_read _ (hi_of HO rfl) rfl (fun w' hE => by (repeat (with_reducible replace hE := Ext.unD hE)); have hcE := hE.hc; clear hE; go_simp; rfl) ?_
        simp only [Act.put, List.setIfInBounds_toArray, List.set_cons_succ, List.set_cons_zero]
        refine plan_read _ (hi_of HO rfl) rfl (fun w' hE => by (repeat (with_reducible replace hE := Ext.unD hE)); have hcE := hE.hc; clear hE; go_simp; rfl) ?_
        simp only [Act.put, List.setIfInBounds_toArray, List.set_cons_succ, List.set_cons_zero]
        refine plan_read _ (hi_of HO rfl) rfl (fun w' hE => by (repeat (with_reducible replace hE := Ext.unD hE)); have hcE := hE.hc; clear hE; go_simp; rfl) ?_
        simp only [Act.put, List.setIfInBounds_toArray, List.set_cons_succ, List.set_cons_zero]
        refine plan_read _ (hi_of HO rfl) rfl (fun w' hE => by (repeat (with_reducible replace hE := Ext.unD hE)); have hcE := hE.hc; clear hE; go_simp; rfl) ?_
        simp only [Act.put, List.setIfInBounds_toArray, List.set_cons_succ, List.set_cons_zero]
        refine plan_read _ (hi_of HO rfl) rfl (fun w' hE => by (repeat (with_reducible replace hE := Ext.unD hE)); have hcE := hE.hc; clear hE; go_simp; rfl) ?_
        simp only [Act.put, List.setIfInBounds_toArray, List.set_cons_succ, List.set_cons_zero]
        refine plan_skip (hi_of HO rfl) (by rw [HO.out]; rfl) ?_
        simp only [Act.put, List.setIfInBounds_toArray, List.set_cons_succ, List.set_cons_zero]
        refine plan_skip (hi_of HO rfl) (by rw [HO.out]; rfl) ?_
        simp only [Act.put, List.setIfInBounds_toArray, List.set_cons_succ, List.set_cons_zero]
        refine plan_skip (hi_of HO rfl) (by rw [HO.out]; rfl) ?_
        simp only [Act.put, List.setIfInBounds_toArray, List.set_cons_succ, List.set_cons_zero]
        refine plan_skip (hi_of HO rfl) (by rw [HO.out]; rfl) ?_
        simp only [Act.put, List.setIfInBounds_toArray, List.set_cons_succ, List.set_cons_zero]
        refine plan_skip (hi_of HO rfl) (by rw [HO.out]; rfl) ?_
        simp only [Act.put, List.setIfInBounds_toArray, List.set_cons_succ, List.set_cons_zero]
        refine plan_skip1 (hi_of HO rfl) (by rw [HO.out]; rfl) (Ext.refl _) ?_
        simp only [Act.put, List.setIfInBounds_toArray, List.set_cons_succ, List.set_cons_zero]
        refine plan_read _ (hi_of HO rfl) rfl (fun w' hE => by (repeat (with_reducible replace hE := Ext.unD hE)); have hcE := hE.hc; clear hE; go_simp; rfl) ?_
        simp only [Act.put, List.setIfInBounds_toArray, List.set_cons_succ, List.set_cons_zero]
        refine plan_done ?fin105
        refine gen_world (P := Try.prog) (fun W6 => Ext wr W6) (by first | exact Ext.refl _ | exact Ext.drew (Ext.refl _)) ?_
        intro W6 hx6
        have HX6 := hid_mk (Ext.trans _ _ _ HX2.out (Ext.trans _ _ _ HXG.out hx6))
        have HA6 := hid_mk (HA3.out.ext (Ext.trans _ _ _ HX.out hx6))
        have HC6 := hid_mk (HC.out.ext (Ext.trans _ _ _ HXG.out hx6))
        clear hx6 a0 a1 a2 a3 hal hj1
        by_cases hcj : lc = j
        · have HD0 := hid_mk hd0
          clear hd0
          obtain rfl : j = lc := hcj.symm
          clear hk2 hk3
          obtain ⟨v7, W7, hrun7, ho7, hg7⟩ := append_some (w := W6.alloc (.cells #[] 82)) (B := W6.heap.size) (c := j) (own_empty (heap_alloc_new W6 _) (Nat.le_refl _)) ((HC6.out.ext ((Ext.refl W6).alloc _)).take j) (by simp; have := HLL.out; have := HKL.out; omega) (by simp)
          have hx7 : Ext W6 W7 := ext_grown ((Ext.refl W6).alloc _) hg7 (own_empty (heap_alloc_new W6 _) (Nat.le_refl _)) (Nat.le_refl _)
          rw [List.nil_append] at ho7
          obtain ⟨o7a, o7c, rfl⟩ := own_form ho7
          obtain ⟨a0, a1, a2, a3⟩ := HA6.out.ext hx7
          simp only [Nat.zero_add] at a0 a1 a2 a3
          have hal := cell_lt a0
          obtain ⟨v8, W8, hrun8, ho8, hg8⟩ := append_one (w := W7.alloc (.cells #[.int .i64 n.1, .int .i64 n.2.1, .int .i64 n.2.2, .int .i64 t] 82)) (c := 1) (own_ext ho7 ((Ext.refl W7).alloc _)) (b := W7.heap.size) (x := (n, t)) ⟨newc rfl, newc rfl, newc rfl, newc rfl⟩ (by have := HLL.out; rw [List.length_take]; omega) (by have := hx7.below.size; simp; omega)
          have hx8 : Ext W6 W8 := ext_grown (hx7.alloc _) hg8 (own_ext ho7 ((Ext.refl W7).alloc _)) (Nat.le_refl _)
          obtain ⟨o8a, o8c, rfl⟩ := own_form ho8
          obtain ⟨v9, W9, hrun9, ho9, hg9⟩ := append_some (w := W8) (c := 0) ho8 (fun i hi => by rw [HD0.out] at hi; exact absurd hi (by simp) : AlsO W8 g 0 (l1.drop j)) (by have := HLL.out; have := HKL.out; rw [List.length_append, List.length_take, List.length_drop, List.length_singleton]; omega) hx8.below.size
          have hx9 : Ext W6 W9 := ext_grown hx8 hg9 ho8 (Nat.le_refl _)
          have hset : l1.take j ++ [(n, t)] ++ l1.drop j = setA n t l := by rw [HSET.out, List.append_assoc]; rfl
          rw [hset] at ho9
          obtain ⟨o9a, o9c, rfl⟩ := own_form ho9
          have HX9 := hid_mk (Ext.trans _ _ _ HX6.out hx9)
          have hlt1 : (l1.take j).length = j := by rw [List.length_take]; have := HKL.out; omega
          have hlt2 : (l1.drop j).length = 0 := by rw [HD0.out]; rfl
          have hlt3 : (l1.take j ++ [(n, t)]).length = j + 1 := by rw [List.length_append, hlt1]; rfl
          rw [hlt1] at hrun7 hrun8
          rw [hlt2] at hrun9
          rw [hlt3] at hrun8 hrun9
          have HP : Hid (RPost B w rb (.slice va l.length vc) (setA n t l) (W9.setCell ⟨rb, 0, none⟩ (.slice o9a (setA n t l).length o9c))) := hid_mk (H.out.store HX9.out (OwnA.lower ho9 HX6.out.below.size))
          have h1 := (H.out.ext HX9.out).c0
          have f1 := (H.out.ext HX9.out).f0
          have hrl := cell_lt h1
          clear hx7 ho7 hg7 hx8 ho8 hg8 ho9 hg9 hx9 hset hlt1 hlt2 hlt3
          go_wp2
          go_ret
          exact ⟨rfl, HP.out⟩
        · have HD0 := hid_mk hd0
          clear hd0
          obtain ⟨v7, W7, hrun7, ho7, hg7⟩ := append_some (w := W6.alloc (.cells #[] 82)) (B := W6.heap.size) (c := lc) (own_empty (heap_alloc_new W6 _) (Nat.le_refl _)) ((HC6.out.ext ((Ext.refl W6).alloc _)).take j) (by simp; have := HLL.out; have := HKL.out; omega) (by simp)
          have hx7 : Ext W6 W7 := ext_grown ((Ext.refl W6).alloc _) hg7 (own_empty (heap_alloc_new W6 _) (Nat.le_refl _)) (Nat.le_refl _)
          rw [List.nil_append] at ho7
          obtain ⟨o7a, o7c, rfl⟩ := own_form ho7
          obtain ⟨a0, a1, a2, a3⟩ := HA6.out.ext hx7
          simp only [Nat.zero_add] at a0 a1 a2 a3
          have hal := cell_lt a0
          obtain ⟨v8, W8, hrun8, ho8, hg8⟩ := append_one (w := W7.alloc (.cells #[.int .i64 n.1, .int .i64 n.2.1, .int .i64 n.2.2, .int .i64 t] 82)) (c := 1) (own_ext ho7 ((Ext.refl W7).alloc _)) (b := W7.heap.size) (x := (n, t)) ⟨newc rfl, newc rfl, newc rfl, newc rfl⟩ (by have := HLL.out; rw [List.length_take]; omega) (by have := hx7.below.size; simp; omega)
          have hx8 : Ext W6 W8 := ext_grown (hx7.alloc _) hg8 (own_ext ho7 ((Ext.refl W7).alloc _)) (Nat.le_refl _)
          obtain ⟨o8a, o8c, rfl⟩ := own_form ho8
          obtain ⟨v9, W9, hrun9, ho9, hg9⟩ := append_some (w := W8) (c := (lc - j)) ho8 ((HC6.out.ext hx8).drop j) (by have := HLL.out; have := HKL.out; rw [List.length_append, List.length_take, List.length_drop, List.length_singleton]; omega) hx8.below.size
          have hx9 : Ext W6 W9 := ext_grown hx8 hg9 ho8 (Nat.le_refl _)
          have hset : l1.take j ++ [(n, t)] ++ l1.drop j = setA n t l := by rw [HSET.out, List.append_assoc]; rfl
          rw [hset] at ho9
          obtain ⟨o9a, o9c, rfl⟩ := own_form ho9
          have HX9 := hid_mk (Ext.trans _ _ _ HX6.out hx9)
          have hlt1 : (l1.take j).length = j := by rw [List.length_take]; have := HKL.out; omega
          have hlt2 : (l1.drop j).length = 0 := by rw [HD0.out]; rfl
          have hlt3 : (l1.take j ++ [(n, t)]).length = j + 1 := by rw [List.length_append, hlt1]; rfl
          rw [hlt1] at hrun7 hrun8
          rw [hlt2] at hrun9
          rw [hlt3] at hrun8 hrun9
          have HP : Hid (RPost B w rb (.slice va l.length vc) (setA n t l) (W9.setCell ⟨rb, 0, none⟩ (.slice o9a (setA n t l).length o9c))) := hid_mk (H.out.store HX9.out (OwnA.lower ho9 HX6.out.below.size))
          have h1 := (H.out.ext HX9.out).c0
          have f1 := (H.out.ext HX9.out).f0
          have hrl := cell_lt h1
          clear hx7 ho7 hg7 hx8 ho8 hg8 ho9 hg9 hx9 hset hlt1 hlt2 hlt3
          go_wp2
          go_ret
          exact ⟨rfl, HP.out⟩
end Go.Proofs.Ytiimoaplhhnklaa
