/- The document's ghosts: Wrote. -/
import Derived.Test.YtiimoaplhhnklaaHQ
namespace Go.Proofs.Ytiimoaplhhnklaa
open Go.RowKit
set_option maxHeartbeats 4000000
set_option maxRecDepth 100000
set_option linter.unusedSimpArgs false
set_option linter.unusedVariables false
attribute [local go_sem ↓] eql_entE neq_entE
attribute [-go_sem] Builtin.append_

theorem eql_ver (w : World) (c n c' n' : Int) : (binOp .eql 29 (.agg #[.int .i64 c, .int .i64 n]) (.agg #[.int .i64 c', .int .i64 n'])).run Try.prog w = .ok (.bool (decide (c = c' ∧ n = n'))) w := by
  go_simp
  by_cases h1 : c = c' <;> by_cases h2 : n = n' <;> simp [*]
attribute [local go_sem ↓] eql_ver
theorem EAway.cons {L L' : List Nat} {v : Value} (h : EAway L v) (h' : EAway L' v) : EAway (L ++ L') v := fun b o n c e hn hm => (List.mem_append.1 hm).elim (h b o n c e hn) (h' b o n c e hn)
theorem RhAt.stored {B : Nat} {w w1 w2 : World} {rb : Nat} {rv v' : Value} {A A' : List Ent} {sv : Nat → Value} {ls : Nat → List Ent} (h : RhAt B w rb rv A sv ls) (hx : Ext w w1) (hg : w1.grownBy w2 rv.ownBlock) (ho : OwEn w2 B v' A') (hob : v'.ownBlock = rv.ownBlock ∨ v'.ownBlock = some w1.heap.size) :
    RGPost B w rb rv sv A' ls (w2.setCell ⟨rb, 0, none⟩ v') := by
  have hl := h.lt
  have hz := hx.below.size
  have hrb1 : rb < w1.heap.size := by omega
  have hb1 : w1.heap[rb]? = _ := (hx.below.block rb hl.1).trans h.blk
  have hb2 := (hg.block rb hrb1 (fun e => hl.2.2 e.symm)).trans hb1
  have hxg : Xl (rfp rb rv) w w2 := ⟨hg.os.trans hx.below.os, hg.tape.trans hx.below.tape, hg.output.trans hx.below.output, Nat.le_trans hz hg.size, fun k hk hn => (hg.block k (by omega) (fun e => hn (by simp [rfp, ← e]))).trans (hx.below.block k hk)⟩
  have hxs : Xl [rb] w2 (w2.setCell ⟨rb, 0, none⟩ v') := (Xl.refl _).set (by simp)
  have hxa : Xl (rfp rb rv) w (w2.setCell ⟨rb, 0, none⟩ v') := Xl.trans _ _ _ hxg (by refine ⟨hxs.os, hxs.tape, hxs.output, hxs.size, fun k hk hn => hxs.block k hk (fun hm => hn ?_)⟩; simp at hm; simp [rfp, hm])
  have hnrb : v'.ownBlock ≠ some rb := by
    rcases hob with e | e
    · rw [e]; exact hl.2.2
    · rw [e]; intro e'; cases e'; omega
  refine ⟨v', sv, ⟨?_, ho.xl hxs (fun g hg hm => hnrb (by simp at hm; rw [hg, hm])), fun i hi => (h.sl i hi).xl hxa (h.aw i hi), fun i hi b o n c e hn hm => ?_, ⟨h.lo.1, Nat.le_trans h.lo.2 hxa.size⟩⟩, hxa, ?_, fun i hi => .inl rfl⟩
  · rw [heap_setCell_same w2 rb 0 _ _ v' hb2]
    rfl
  · simp [rfp] at hm
    rcases hm with hm | hm
    · exact h.aw i hi b o n c e hn (by simp [rfp, hm])
    · rcases hob with e1 | e1
      · exact h.aw i hi b o n c e hn (by simp [rfp, ← e1, hm])
      · rw [e1] at hm
        cases hm
        have := EAway.of_lt (L := [w1.heap.size]) (h.sl i hi) (by simp; omega) _ o n c e hn
        simp at this
  · rcases hob with e | e
    · exact .inl e
    · right
      intro g hg
      rw [e] at hg
      cases hg
      exact hz
theorem wroteE_some {x y : Ent} {A : List Ent} (h : eChk x = 0) (hf : findN (nk x) A = some y) : wroteE x A = if y = x then 0 else 190 := by
  unfold wroteE; rw [if_neg (by rw [h]; simp), hf]
theorem wroteE_none {x : Ent} {A : List Ent} (h : eChk x = 0) (hf : findN (nk x) A = none) : wroteE x A = 0 := by
  unfold wroteE; rw [if_neg (by rw [h]; simp), hf]
theorem wroteA_some {x y : Ent} {A : List Ent} (h : eChk x = 0) (hf : findN (nk x) A = some y) : wroteA x A = A := by
  unfold wroteA; rw [if_neg (by rw [h]; simp), hf]
theorem wroteA_none {x : Ent} {A : List Ent} (h : eChk x = 0) (hf : findN (nk x) A = none) : wroteA x A = A ++ [x] := by
  unfold wroteA; rw [if_neg (by rw [h]; simp), hf]
theorem findN_first {A : List Ent} {k : Nat} {n : NK} (h : k < A.length) (hf : ∀ y ∈ A.take k, ¬ nk y = n) (e : nk A[k] = n) : findN n A = some A[k] := by
  have hsp : A = A.take k ++ A[k] :: A.drop (k + 1) := by rw [← List.drop_eq_getElem_cons h, List.take_append_drop]
  unfold findN
  conv => lhs; rw [hsp]
  rw [List.find?_append, List.find?_eq_none.2 (fun y hy => by simpa using hf y hy), Option.none_or, List.find?_cons_of_pos (by simpa using e)]
theorem rgpost_from {B : Nat} {w w1 w' : World} {rb : Nat} {rv : Value} {A' : List Ent} {sv : Nat → Value} {ls' : Nat → List Ent} (hx : Ext w w1) (h : RGPost B w1 rb rv sv A' ls' w') : RGPost B w rb rv sv A' ls' w' := by
  obtain ⟨rv', sv', h1, h2, h3, h4⟩ := h
  have hz := hx.below.size
  exact ⟨rv', sv', h1, Xl.trans _ _ _ (Xl.of hx) h2, h3.imp id (fun h g hg => Nat.le_trans hz (h g hg)), fun i hi => (h4 i hi).imp id (fun h b o n c e hn => Nat.le_trans hz (h b o n c e hn))⟩
theorem rwrote_any {B : Nat} {w : World} {rb : Nat} {rv : Value} {A : List Ent} {sv : Nat → Value} {ls : Nat → List Ent} (h : RhAt B w rb rv A sv ls) (x : Ent) (hl : A.length ≤ 100000000) :
    Calls Try.prog 33 #[.pointer (some ⟨rb, 0, none⟩), entV x] w fun e w' => e = .returned (.int .i64 (wroteE x A)) ∧ RGPost B w rb rv sv (wroteA x A) ls w' := by
  have H := hid_mk h
  have HLEN := hid_mk hl
  have HC0 := hid_mk h.c0.1
  obtain ⟨z, hz⟩ : ∃ z, entCheck x.key x.ctr x.node x.val x.dead = z := ⟨_, rfl⟩
  have HZ := hid_mk hz
  obtain ⟨re, hre⟩ : ∃ re, wroteE x A = re := ⟨_, rfl⟩
  obtain ⟨rA, hrA⟩ : ∃ rA, wroteA x A = rA := ⟨_, rfl⟩
  have HRE := hid_mk hre
  have HRA := hid_mk hrA
  rw [hre, hrA]
  obtain ⟨a, c, rfl, hac, ha63, hca⟩ := h.own.sl (by omega)
  have HC := hid_mk hca
  clear h hz hre hrA hca
  dsimp only [entV]
  go_enter Try.func33, Try.ntmps33
  go_wp2_with fail
  refine (r3Check_any _ _ _ _ _ _).mono ?_
  rintro e W1 ⟨rfl, hx1⟩
  rw [HZ.out]
  have hE1 : EntAt W1 w.heap.size 0 x := EntAt.ext (w := w.alloc (.cells #[.string x.key, .int .i64 x.ctr, .int .i64 x.node, .string x.val, .bool x.dead] 31)) ⟨by go_simp, by go_simp, by go_simp, by go_simp, by go_simp⟩ hx1
  have HX1 := hid_mk (Ext.trans _ _ _ (show Ext w (w.alloc (.cells #[.string x.key, .int .i64 x.ctr, .int .i64 x.node, .string x.val, .bool x.dead] 31)) by (repeat (first | exact Ext.refl _ | apply Ext.drew_left | apply Ext.drew | apply Ext.alloc))) hx1)
  obtain ⟨xb, hxb⟩ : ∃ xb, w.heap.size = xb := ⟨_, rfl⟩
  rw [hxb] at hE1 ⊢
  have HE1 := hid_mk hE1
  clear hx1 hxb hE1
  by_cases hz : z = 0
  · subst hz
    go_wp2_with fail
    go_loopw [6] (fun i wr => ∃ k : Nat, k ≤ A.length ∧ i = .int .i64 (k : Int) ∧ (∀ y ∈ A.take k, ¬ nk y = nk x) ∧ Ext W1 wr) (fun i _ => A.length - (intOf i).toNat)
    case atStart => exact ⟨0, Nat.zero_le _, rfl, by simp, Ext.refl _⟩
    case round =>
      obtain ⟨k, hk, rfl, hf, hx⟩ := hrel
      have HF := hid_mk hf
      have HX := hid_mk hx
      have r0 := cell_ext (Ext.trans _ _ _ HX1.out hx) HC0.out
      have hrl := cell_lt r0
      obtain ⟨e0, e1, e2, e3, e4⟩ := HE1.out.ext hx
      have hel := cell_lt e0
      clear hf hx
      by_cases hlt : k < A.length
      · obtain ⟨b, o, rfl, hcl⟩ := HC.out (by omega)
        obtain ⟨a0, a1, a2, a3, a4⟩ := (hcl k hlt).ext (Ext.trans _ _ _ HX1.out HX.out)
        have hbl := cell_lt a0
        have HT := hid_mk (show A.take (k + 1) = A.take k ++ [A[k]] from List.take_succ_eq_append_getElem hlt)
        have HFI := hid_mk (findN_first hlt HF.out)
        obtain ⟨y, hy⟩ : ∃ y, A[k] = y := ⟨_, rfl⟩
        rw [hy] at a0 a1 a2 a3 a4 HT HFI
        have hk1 : (k : Int) < (A.length : Int) := by omega
        have hk0 : (0 : Int) ≤ (k : Int) := by omega
        have HW := hid_mk (show wrap64 ((k : Int) + 1) = (k : Int) + 1 from w64in (by omega))
        clear hcl hy
        rcases hkey : (y.key.toList == x.key.toList) with _ | _
        · have HNE := hid_mk (show ¬ nk y = nk x from fun e => by
            have : y.key = x.key := congrArg NK.k e
            rw [this] at hkey; simp at hkey)
          go_wp2_with fail
          refine wp_region_held_below (fun _ => true) (.quiet 0 (.quiet 1 (.quiet 2 (.quiet 3 (.quiet 4 (.quiet 5 (.quiet 6 (.quiet 7 (.quiet 8 (.quiet 9 (.quiet 10 (.quiet 11 (.quiet 12 (.quiet 13 (.quiet 14 (.quiet 15 (.quiet 16 (.quiet 17 (.quiet 18 (.quiet 19 (.quiet 20 (.quiet 21 (.quiet 22 (.quiet 23 .done)))))))))))))))))))))))) (by kernel_rfl) (by kernel_rfl) (by intro c a w d v h; cases d <;> exact h) (fun ops HO => ?_)
          refine plan_read _ (hi_of HO rfl) rfl (fun w' hE => by (repeat (with_reducible replace hE := Ext.unD hE)); have hcE := hE.hc; clear hE; go_simp; rfl) ?_
          simp only [Act.put, List.setIfInBounds_toArray, List.set_cons_succ, List.set_cons_zero]
          refine plan_read _ (hi_of HO rfl) rfl (fun w' hE => by (repeat (with_reducible replace hE := Ext.unD hE)); have hcE := hE.hc; clear hE; go_simp; rfl) ?_
          simp only [Act.put, List.setIfInBounds_toArray, List.set_cons_succ, List.set_cons_zero]
          refine plan_read _ (hi_of HO rfl) rfl (fun w' hE => by (repeat (with_reducible replace hE := Ext.unD hE)); have hcE := hE.hc; clear hE; go_simp; rfl) ?_
          simp only [Act.put, List.setIfInBounds_toArray, List.set_cons_succ, List.set_cons_zero]
          refine plan_read _ (hi_of HO rfl) rfl (fun w' hE => by (repeat (with_reducible replace hE := Ext.unD hE)); have hcE := hE.hc; clear hE; go_simp; rfl) ?_
          simp only [Act.put, List.setIfInBounds_toArray, List.set_cons_succ, List.set_cons_zero]
          refine plan_read _ (hi_of HO rfl) rfl (fun w' hE => by (repeat (with_reducible replace hE := Ext.unD hE)); have hcE := hE.hc; clear hE; go_simp; rfl) ?_
          simp only [Act.put, List.setIfInBounds_toArray, List.set_cons_succ, List.set_cons_zero]
          refine plan_read _ (hi_of HO rfl) rfl (fun w' hE => by (repeat (with_reducible replace hE := Ext.unD hE)); have hcE := hE.hc; clear hE; go_simp; rfl) ?_
          simp only [Act.put, List.setIfInBounds_toArray, List.set_cons_succ, List.set_cons_zero]
          refine plan_read _ (hi_of HO rfl) rfl (fun w' hE => by (repeat (with_reducible replace hE := Ext.unD hE)); have hcE := hE.hc; clear hE; go_simp; rfl) ?_
          simp only [Act.put, List.setIfInBounds_toArray, List.set_cons_succ, List.set_cons_zero]
          refine plan_read _ (hi_of HO rfl) rfl (fun w' hE => by (repeat (with_reducible replace hE := Ext.unD hE)); have hcE := hE.hc; clear hE; go_simp; rfl) ?_
          simp only [Act.put, List.setIfInBounds_toArray, List.set_cons_succ, List.set_cons_zero]
          refine plan_read _ (hi_of HO rfl) rfl (fun w' hE => by (repeat (with_reducible replace hE := Ext.unD hE)); have hcE := hE.hc; clear hE; go_simp; rfl) ?_
          simp only [Act.put, List.setIfInBounds_toArray, List.set_cons_succ, List.set_cons_zero]
          refine plan_read _ (hi_of HO rfl) rfl (fun w' hE => by (repeat (with_reducible replace hE := Ext.unD hE)); have hcE := hE.hc; clear hE; go_simp; rfl) ?_
          simp only [Act.put, List.setIfInBounds_toArray, List.set_cons_succ, List.set_cons_zero]
          refine plan_read _ (hi_of HO rfl) rfl (fun w' hE => by (repeat (with_reducible replace hE := Ext.unD hE)); have hcE := hE.hc; clear hE; go_simp; rfl) ?_
          simp only [Act.put, List.setIfInBounds_toArray, List.set_cons_succ, List.set_cons_zero]
          refine plan_read _ (hi_of HO rfl) rfl (fun w' hE => by (repeat (with_reducible replace hE := Ext.unD hE)); have hcE := hE.hc; clear hE; go_simp; rfl) ?_
          simp only [Act.put, List.setIfInBounds_toArray, List.set_cons_succ, List.set_cons_zero]
          refine plan_skip (hi_of HO rfl) (by rw [HO.out]; rfl) ?_
          simp only [Act.put, List.setIfInBounds_toArray, List.set_cons_succ, List.set_cons_zero]
          refine plan_skip (hi_of HO rfl) (by rw [HO.out]; rfl) ?_
          simp only [Act.put, List.setIfInBounds_toArray, List.set_cons_succ, List.set_cons_zero]
          refine plan_skip (hi_of HO rfl) (by rw [HO.out]; rfl) ?_
          simp only [Act.put, List.setIfInBounds_toArray, List.set_cons_succ, List.set_cons_zero]
          refine plan_skip (hi_of HO rfl) (by rw [HO.out]; rfl) ?_
          simp only [Act.put, List.setIfInBounds_toArray, List.set_cons_succ, List.set_cons_zero]
          refine plan_skip (hi_of HO rfl) (by rw [HO.out]; rfl) ?_
          simp only [Act.put, List.setIfInBounds_toArray, List.set_cons_succ, List.set_cons_zero]
          refine plan_skip (hi_of HO rfl) (by rw [HO.out]; rfl) ?_
          simp only [Act.put, List.setIfInBounds_toArray, List.set_cons_succ, List.set_cons_zero]
          refine plan_skip (hi_of HO rfl) (by rw [HO.out]; rfl) ?_
          simp only [Act.put, List.setIfInBounds_toArray, List.set_cons_succ, List.set_cons_zero]
          refine plan_skip (hi_of HO rfl) (by rw [HO.out]; rfl) ?_
          simp only [Act.put, List.setIfInBounds_toArray, List.set_cons_succ, List.set_cons_zero]
          refine plan_skip (hi_of HO rfl) (by rw [HO.out]; rfl) ?_
          simp only [Act.put, List.setIfInBounds_toArray, List.set_cons_succ, List.set_cons_zero]
          refine plan_skip (hi_of HO rfl) (by rw [HO.out]; rfl) ?_
          simp only [Act.put, List.setIfInBounds_toArray, List.set_cons_succ, List.set_cons_zero]
          refine plan_skip (hi_of HO rfl) (by rw [HO.out]; rfl) ?_
          simp only [Act.put, List.setIfInBounds_toArray, List.set_cons_succ, List.set_cons_zero]
          refine plan_read _ (hi_of HO rfl) rfl (fun w' hE => by (repeat (with_reducible replace hE := Ext.unD hE)); have hcE := hE.hc; clear hE; go_simp; rfl) ?_
          simp only [Act.put, List.setIfInBounds_toArray, List.set_cons_succ, List.set_cons_zero]
          refine plan_done ?fin101
          go_wp2
          go_roundw
          case rel =>
            refine ⟨k + 1, by omega, (by first | exact congrArg (Value.int .i64) HW.out | rfl), fun z hz => ?_, by first | exact HX.out | exact Ext.drew HX.out⟩
            rw [HT.out] at hz
            rcases List.mem_append.1 hz with hz | hz
            · exact HF.out z hz
            · rw [List.mem_singleton] at hz
              rw [hz]; exact HNE.out
          case measure => (try simp only [HW.out]); simp [intOf]; omega
        · by_cases hv : y.ctr = x.ctr ∧ y.node = x.node
          · have hvd : decide (y.ctr = x.ctr ∧ y.node = x.node) = true := decide_eq_true hv
            have HFY := hid_mk (HFI.out (nk_ext (show y.key.toList = x.key.toList by simpa using hkey) hv.1 hv.2))
            have HRE' := hid_mk (show (if y = x then 0 else 190) = re by rw [← HRE.out, wroteE_some HZ.out HFY.out])
            have HRA' := hid_mk (show A = rA by rw [← HRA.out, wroteA_some HZ.out HFY.out])
            clear hv
            by_cases hyx : y = x
            · have hne : decide (¬ y = x) = false := decide_eq_false (by simp [hyx])
              rw [if_pos hyx] at HRE'
              clear hyx
              go_wp2_with fail
              refine wp_region_held_below (fun _ => true) (.quiet 0 (.quiet 1 (.quiet 2 (.quiet 3 (.quiet 4 (.quiet 5 (.quiet 6 (.quiet 7 (.quiet 8 (.quiet 9 (.quiet 10 (.quiet 11 (.quiet 12 (.quiet 13 (.quiet 14 (.quiet 15 (.quiet 16 (.quiet 17 (.quiet 18 (.quiet 19 (.quiet 20 (.quiet 21 (.quiet 22 (.quiet 23 .done)))))))))))))))))))))))) (by kernel_rfl) (by kernel_rfl) (by intro c a w d v h; cases d <;> exact h) (fun ops HO => ?_)
              refine plan_read _ (hi_of HO rfl) rfl (fun w' hE => by (repeat (with_reducible replace hE := Ext.unD hE)); have hcE := hE.hc; clear hE; go_simp; rfl) ?_
              simp only [Act.put, List.setIfInBounds_toArray, List.set_cons_succ, List.set_cons_zero]
              refine plan_read _ (hi_of HO rfl) rfl (fun w' hE => by (repeat (with_reducible replace hE := Ext.unD hE)); have hcE := hE.hc; clear hE; go_simp; rfl) ?_
              simp only [Act.put, List.setIfInBounds_toArray, List.set_cons_succ, List.set_cons_zero]
              refine plan_read _ (hi_of HO rfl) rfl (fun w' hE => by (repeat (with_reducible replace hE := Ext.unD hE)); have hcE := hE.hc; clear hE; go_simp; rfl) ?_
              simp only [Act.put, List.setIfInBounds_toArray, List.set_cons_succ, List.set_cons_zero]
              refine plan_read _ (hi_of HO rfl) rfl (fun w' hE => by (repeat (with_reducible replace hE := Ext.unD hE)); have hcE := hE.hc; clear hE; go_simp; rfl) ?_
              simp only [Act.put, List.setIfInBounds_toArray, List.set_cons_succ, List.set_cons_zero]
              refine plan_read _ (hi_of HO rfl) rfl (fun w' hE => by (repeat (with_reducible replace hE := Ext.unD hE)); have hcE := hE.hc; clear hE; go_simp; rfl) ?_
              simp only [Act.put, List.setIfInBounds_toArray, List.set_cons_succ, List.set_cons_zero]
              refine plan_read _ (hi_of HO rfl) rfl (fun w' hE => by (repeat (with_reducible replace hE := Ext.unD hE)); have hcE := hE.hc; clear hE; go_simp; rfl) ?_
              simp only [Act.put, List.setIfInBounds_toArray, List.set_cons_succ, List.set_cons_zero]
              refine plan_read _ (hi_of HO rfl) rfl (fun w' hE => by (repeat (with_reducible replace hE := Ext.unD hE)); have hcE := hE.hc; clear hE; go_simp; rfl) ?_
              simp only [Act.put, List.setIfInBounds_toArray, List.set_cons_succ, List.set_cons_zero]
              refine plan_read _ (hi_of HO rfl) rfl (fun w' hE => by (repeat (with_reducible replace hE := Ext.unD hE)); have hcE := hE.hc; clear hE; go_simp; rfl) ?_
              simp only [Act.put, List.setIfInBounds_toArray, List.set_cons_succ, List.set_cons_zero]
              refine plan_read _ (hi_of HO rfl) rfl (fun w' hE => by (repeat (with_reducible replace hE := Ext.unD hE)); have hcE := hE.hc; clear hE; go_simp; rfl) ?_
              simp only [Act.put, List.setIfInBounds_toArray, List.set_cons_succ, List.set_cons_zero]
              refine plan_read _ (hi_of HO rfl) rfl (fun w' hE => by (repeat (with_reducible replace hE := Ext.unD hE)); have hcE := hE.hc; clear hE; go_simp; rfl) ?_
              simp only [Act.put, List.setIfInBounds_toArray, List.set_cons_succ, List.set_cons_zero]
              refine plan_read _ (hi_of HO rfl) rfl (fun w' hE => by (repeat (with_reducible replace hE := Ext.unD hE)); have hcE := hE.hc; clear hE; go_simp; rfl) ?_
              simp only [Act.put, List.setIfInBounds_toArray, List.set_cons_succ, List.set_cons_zero]
              refine plan_read _ (hi_of HO rfl) rfl (fun w' hE => by (repeat (with_reducible replace hE := Ext.unD hE)); have hcE := hE.hc; clear hE; go_simp; rfl) ?_
              simp only [Act.put, List.setIfInBounds_toArray, List.set_cons_succ, List.set_cons_zero]
              refine plan_read _ (hi_of HO rfl) (by rw [HO.out]; rfl) (fun w' hE => by (repeat (with_reducible replace hE := Ext.unD hE)); have hcE := hE.hc; clear hE; go_simp; rfl) ?_
              simp only [Act.put, List.setIfInBounds_toArray, List.set_cons_succ, List.set_cons_zero]
              refine plan_read _ (hi_of HO rfl) (by rw [HO.out]; rfl) (fun w' hE => by (repeat (with_reducible replace hE := Ext.unD hE)); have hcE := hE.hc; clear hE; go_simp; rfl) ?_
              simp only [Act.put, List.setIfInBounds_toArray, List.set_cons_succ, List.set_cons_zero]
              refine plan_read _ (hi_of HO rfl) (by rw [HO.out]; rfl) (fun w' hE => by (repeat (with_reducible replace hE := Ext.unD hE)); have hcE := hE.hc; clear hE; go_simp; rfl) ?_
              simp only [Act.put, List.setIfInBounds_toArray, List.set_cons_succ, List.set_cons_zero]
              refine plan_read _ (hi_of HO rfl) (by rw [HO.out]; rfl) (fun w' hE => by (repeat (with_reducible replace hE := Ext.unD hE)); have hcE := hE.hc; clear hE; go_simp; rfl) ?_
              simp only [Act.put, List.setIfInBounds_toArray, List.set_cons_succ, List.set_cons_zero]
              refine plan_read _ (hi_of HO rfl) (by rw [HO.out]; rfl) (fun w' hE => by (repeat (with_reducible replace hE := Ext.unD hE)); have hcE := hE.hc; clear hE; go_simp; rfl) ?_
              simp only [Act.put, List.setIfInBounds_toArray, List.set_cons_succ, List.set_cons_zero]
              refine plan_read _ (hi_of HO rfl) (by rw [HO.out]; rfl) (fun w' hE => by (repeat (with_reducible replace hE := Ext.unD hE)); have hcE := hE.hc; clear hE; go_simp; rfl) ?_
              simp only [Act.put, List.setIfInBounds_toArray, List.set_cons_succ, List.set_cons_zero]
              refine plan_read _ (hi_of HO rfl) (by rw [HO.out]; rfl) (fun w' hE => by (repeat (with_reducible replace hE := Ext.unD hE)); have hcE := hE.hc; clear hE; go_simp; rfl) ?_
              simp only [Act.put, List.setIfInBounds_toArray, List.set_cons_succ, List.set_cons_zero]
              refine plan_read _ (hi_of HO rfl) (by rw [HO.out]; rfl) (fun w' hE => by (repeat (with_reducible replace hE := Ext.unD hE)); have hcE := hE.hc; clear hE; go_simp; rfl) ?_
              simp only [Act.put, List.setIfInBounds_toArray, List.set_cons_succ, List.set_cons_zero]
              refine plan_read _ (hi_of HO rfl) (by rw [HO.out]; rfl) (fun w' hE => by (repeat (with_reducible replace hE := Ext.unD hE)); have hcE := hE.hc; clear hE; go_simp; rfl) ?_
              simp only [Act.put, List.setIfInBounds_toArray, List.set_cons_succ, List.set_cons_zero]
              refine plan_read _ (hi_of HO rfl) (by rw [HO.out]; rfl) (fun w' hE => by (repeat (with_reducible replace hE := Ext.unD hE)); have hcE := hE.hc; clear hE; go_simp; rfl) ?_
              simp only [Act.put, List.setIfInBounds_toArray, List.set_cons_succ, List.set_cons_zero]
              refine plan_read _ (hi_of HO rfl) (by rw [HO.out]; rfl) (fun w' hE => by (repeat (with_reducible replace hE := Ext.unD hE)); have hcE := hE.hc; clear hE; go_simp; rfl) ?_
              simp only [Act.put, List.setIfInBounds_toArray, List.set_cons_succ, List.set_cons_zero]
              refine plan_read _ (hi_of HO rfl) rfl (fun w' hE => by (repeat (with_reducible replace hE := Ext.unD hE)); have hcE := hE.hc; clear hE; go_simp; rfl) ?_
              simp only [Act.put, List.setIfInBounds_toArray, List.set_cons_succ, List.set_cons_zero]
              refine plan_done ?fin102
              go_wp2_with fail
              refine wp_region_held_below (fun _ => true) (.quiet 0 (.quiet 1 (.quiet 2 (.quiet 3 (.quiet 4 (.quiet 5 (.quiet 6 (.quiet 7 (.quiet 8 .done))))))))) (by kernel_rfl) (by kernel_rfl) (by intro c a w d v h; cases d <;> exact h) (fun ops HO => ?_)
              refine plan_read _ (hi_of HO rfl) rfl (fun w' hE => by (repeat (with_reducible replace hE := Ext.unD hE)); have hcE := hE.hc; clear hE; go_simp; rfl) ?_
              simp only [Act.put, List.setIfInBounds_toArray, List.set_cons_succ, List.set_cons_zero]
              refine plan_read _ (hi_of HO rfl) rfl (fun w' hE => by (repeat (with_reducible replace hE := Ext.unD hE)); have hcE := hE.hc; clear hE; go_simp; rfl) ?_
              simp only [Act.put, List.setIfInBounds_toArray, List.set_cons_succ, List.set_cons_zero]
              refine plan_read _ (hi_of HO rfl) rfl (fun w' hE => by (repeat (with_reducible replace hE := Ext.unD hE)); have hcE := hE.hc; clear hE; go_simp; rfl) ?_
              simp only [Act.put, List.setIfInBounds_toArray, List.set_cons_succ, List.set_cons_zero]
              refine plan_read _ (hi_of HO rfl) rfl (fun w' hE => by (repeat (with_reducible replace hE := Ext.unD hE)); have hcE := hE.hc; clear hE; go_simp; rfl) ?_
              simp only [Act.put, List.setIfInBounds_toArray, List.set_cons_succ, List.set_cons_zero]
              refine plan_read _ (hi_of HO rfl) rfl (fun w' hE => by (repeat (with_reducible replace hE := Ext.unD hE)); have hcE := hE.hc; clear hE; go_simp; rfl) ?_
              simp only [Act.put, List.setIfInBounds_toArray, List.set_cons_succ, List.set_cons_zero]
              refine plan_read _ (hi_of HO rfl) rfl (fun w' hE => by (repeat (with_reducible replace hE := Ext.unD hE)); have hcE := hE.hc; clear hE; go_simp; rfl) ?_
              simp only [Act.put, List.setIfInBounds_toArray, List.set_cons_succ, List.set_cons_zero]
              refine plan_read _ (hi_of HO rfl) rfl (fun w' hE => by (repeat (with_reducible replace hE := Ext.unD hE)); have hcE := hE.hc; clear hE; go_simp; rfl) ?_
              simp only [Act.put, List.setIfInBounds_toArray, List.set_cons_succ, List.set_cons_zero]
              refine plan_read _ (hi_of HO rfl) rfl (fun w' hE => by (repeat (with_reducible replace hE := Ext.unD hE)); have hcE := hE.hc; clear hE; go_simp; rfl) ?_
              simp only [Act.put, List.setIfInBounds_toArray, List.set_cons_succ, List.set_cons_zero]
              refine plan_read _ (hi_of HO rfl) rfl (fun w' hE => by (repeat (with_reducible replace hE := Ext.unD hE)); have hcE := hE.hc; clear hE; go_simp; rfl) ?_
              simp only [Act.put, List.setIfInBounds_toArray, List.set_cons_succ, List.set_cons_zero]
              refine plan_done ?fin103
              go_wp2
              go_ret
              exact ⟨ret_int HRE'.out, by rw [← HRA'.out]; exact rgpost_ext H.out (by first | exact Ext.trans _ _ _ HX1.out HX.out | exact Ext.drew (Ext.trans _ _ _ HX1.out HX.out) | exact Ext.drew (Ext.drew (Ext.trans _ _ _ HX1.out HX.out)))⟩
            · have hne : decide (¬ y = x) = true := decide_eq_true hyx
              rw [if_neg hyx] at HRE'
              clear hyx
              go_wp2_with fail
              refine wp_region_held_below (fun _ => true) (.quiet 0 (.quiet 1 (.quiet 2 (.quiet 3 (.quiet 4 (.quiet 5 (.quiet 6 (.quiet 7 (.quiet 8 (.quiet 9 (.quiet 10 (.quiet 11 (.quiet 12 (.quiet 13 (.quiet 14 (.quiet 15 (.quiet 16 (.quiet 17 (.quiet 18 (.quiet 19 (.quiet 20 (.quiet 21 (.quiet 22 (.quiet 23 .done)))))))))))))))))))))))) (by kernel_rfl) (by kernel_rfl) (by intro c a w d v h; cases d <;> exact h) (fun ops HO => ?_)
              refine plan_read _ (hi_of HO rfl) rfl (fun w' hE => by (repeat (with_reducible replace hE := Ext.unD hE)); have hcE := hE.hc; clear hE; go_simp; rfl) ?_
              simp only [Act.put, List.setIfInBounds_toArray, List.set_cons_succ, List.set_cons_zero]
              refine plan_read _ (hi_of HO rfl) rfl (fun w' hE => by (repeat (with_reducible replace hE := Ext.unD hE)); have hcE := hE.hc; clear hE; go_simp; rfl) ?_
              simp only [Act.put, List.setIfInBounds_toArray, List.set_cons_succ, List.set_cons_zero]
              refine plan_read _ (hi_of HO rfl) rfl (fun w' hE => by (repeat (with_reducible replace hE := Ext.unD hE)); have hcE := hE.hc; clear hE; go_simp; rfl) ?_
              simp only [Act.put, List.setIfInBounds_toArray, List.set_cons_succ, List.set_cons_zero]
              refine plan_read _ (hi_of HO rfl) rfl (fun w' hE => by (repeat (with_reducible replace hE := Ext.unD hE)); have hcE := hE.hc; clear hE; go_simp; rfl) ?_
              simp only [Act.put, List.setIfInBounds_toArray, List.set_cons_succ, List.set_cons_zero]
              refine plan_read _ (hi_of HO rfl) rfl (fun w' hE => by (repeat (with_reducible replace hE := Ext.unD hE)); have hcE := hE.hc; clear hE; go_simp; rfl) ?_
              simp only [Act.put, List.setIfInBounds_toArray, List.set_cons_succ, List.set_cons_zero]
              refine plan_read _ (hi_of HO rfl) rfl (fun w' hE => by (repeat (with_reducible replace hE := Ext.unD hE)); have hcE := hE.hc; clear hE; go_simp; rfl) ?_
              simp only [Act.put, List.setIfInBounds_toArray, List.set_cons_succ, List.set_cons_zero]
              refine plan_read _ (hi_of HO rfl) rfl (fun w' hE => by (repeat (with_reducible replace hE := Ext.unD hE)); have hcE := hE.hc; clear hE; go_simp; rfl) ?_
              simp only [Act.put, List.setIfInBounds_toArray, List.set_cons_succ, List.set_cons_zero]
              refine plan_read _ (hi_of HO rfl) rfl (fun w' hE => by (repeat (with_reducible replace hE := Ext.unD hE)); have hcE := hE.hc; clear hE; go_simp; rfl) ?_
              simp only [Act.put, List.setIfInBounds_toArray, List.set_cons_succ, List.set_cons_zero]
              refine plan_read _ (hi_of HO rfl) rfl (fun w' hE => by (repeat (with_reducible replace hE := Ext.unD hE)); have hcE := hE.hc; clear hE; go_simp; rfl) ?_
              simp only [Act.put, List.setIfInBounds_toArray, List.set_cons_succ, List.set_cons_zero]
              refine plan_read _ (hi_of HO rfl) rfl (fun w' hE => by (repeat (with_reducible replace hE := Ext.unD hE)); have hcE := hE.hc; clear hE; go_simp; rfl) ?_
              simp only [Act.put, List.setIfInBounds_toArray, List.set_cons_succ, List.set_cons_zero]
              refine plan_read _ (hi_of HO rfl) rfl (fun w' hE => by (repeat (with_reducible replace hE := Ext.unD hE)); have hcE := hE.hc; clear hE; go_simp; rfl) ?_
              simp only [Act.put, List.setIfInBounds_toArray, List.set_cons_succ, List.set_cons_zero]
              refine plan_read _ (hi_of HO rfl) rfl (fun w' hE => by (repeat (with_reducible replace hE := Ext.unD hE)); have hcE := hE.hc; clear hE; go_simp; rfl) ?_
              simp only [Act.put, List.setIfInBounds_toArray, List.set_cons_succ, List.set_cons_zero]
              refine plan_read _ (hi_of HO rfl) (by rw [HO.out]; rfl) (fun w' hE => by (repeat (with_reducible replace hE := Ext.unD hE)); have hcE := hE.hc; clear hE; go_simp; rfl) ?_
              simp only [Act.put, List.setIfInBounds_toArray, List.set_cons_succ, List.set_cons_zero]
              refine plan_read _ (hi_of HO rfl) (by rw [HO.out]; rfl) (fun w' hE => by (repeat (with_reducible replace hE := Ext.unD hE)); have hcE := hE.hc; clear hE; go_simp; rfl) ?_
              simp only [Act.put, List.setIfInBounds_toArray, List.set_cons_succ, List.set_cons_zero]
              refine plan_read _ (hi_of HO rfl) (by rw [HO.out]; rfl) (fun w' hE => by (repeat (with_reducible replace hE := Ext.unD hE)); have hcE := hE.hc; clear hE; go_simp; rfl) ?_
              simp only [Act.put, List.setIfInBounds_toArray, List.set_cons_succ, List.set_cons_zero]
              refine plan_read _ (hi_of HO rfl) (by rw [HO.out]; rfl) (fun w' hE => by (repeat (with_reducible replace hE := Ext.unD hE)); have hcE := hE.hc; clear hE; go_simp; rfl) ?_
              simp only [Act.put, List.setIfInBounds_toArray, List.set_cons_succ, List.set_cons_zero]
              refine plan_read _ (hi_of HO rfl) (by rw [HO.out]; rfl) (fun w' hE => by (repeat (with_reducible replace hE := Ext.unD hE)); have hcE := hE.hc; clear hE; go_simp; rfl) ?_
              simp only [Act.put, List.setIfInBounds_toArray, List.set_cons_succ, List.set_cons_zero]
              refine plan_read _ (hi_of HO rfl) (by rw [HO.out]; rfl) (fun w' hE => by (repeat (with_reducible replace hE := Ext.unD hE)); have hcE := hE.hc; clear hE; go_simp; rfl) ?_
              simp only [Act.put, List.setIfInBounds_toArray, List.set_cons_succ, List.set_cons_zero]
              refine plan_read _ (hi_of HO rfl) (by rw [HO.out]; rfl) (fun w' hE => by (repeat (with_reducible replace hE := Ext.unD hE)); have hcE := hE.hc; clear hE; go_simp; rfl) ?_
              simp only [Act.put, List.setIfInBounds_toArray, List.set_cons_succ, List.set_cons_zero]
              refine plan_read _ (hi_of HO rfl) (by rw [HO.out]; rfl) (fun w' hE => by (repeat (with_reducible replace hE := Ext.unD hE)); have hcE := hE.hc; clear hE; go_simp; rfl) ?_
              simp only [Act.put, List.setIfInBounds_toArray, List.set_cons_succ, List.set_cons_zero]
              refine plan_read _ (hi_of HO rfl) (by rw [HO.out]; rfl) (fun w' hE => by (repeat (with_reducible replace hE := Ext.unD hE)); have hcE := hE.hc; clear hE; go_simp; rfl) ?_
              simp only [Act.put, List.setIfInBounds_toArray, List.set_cons_succ, List.set_cons_zero]
              refine plan_read _ (hi_of HO rfl) (by rw [HO.out]; rfl) (fun w' hE => by (repeat (with_reducible replace hE := Ext.unD hE)); have hcE := hE.hc; clear hE; go_simp; rfl) ?_
              simp only [Act.put, List.setIfInBounds_toArray, List.set_cons_succ, List.set_cons_zero]
              refine plan_read _ (hi_of HO rfl) (by rw [HO.out]; rfl) (fun w' hE => by (repeat (with_reducible replace hE := Ext.unD hE)); have hcE := hE.hc; clear hE; go_simp; rfl) ?_
              simp only [Act.put, List.setIfInBounds_toArray, List.set_cons_succ, List.set_cons_zero]
              refine plan_read _ (hi_of HO rfl) rfl (fun w' hE => by (repeat (with_reducible replace hE := Ext.unD hE)); have hcE := hE.hc; clear hE; go_simp; rfl) ?_
              simp only [Act.put, List.setIfInBounds_toArray, List.set_cons_succ, List.set_cons_zero]
              refine plan_done ?fin104
              go_wp2_with fail
              refine wp_region_held_below (fun _ => true) (.quiet 0 (.quiet 1 (.quiet 2 (.quiet 3 (.quiet 4 (.quiet 5 (.quiet 6 (.quiet 7 (.quiet 8 .done))))))))) (by kernel_rfl) (by kernel_rfl) (by intro c a w d v h; cases d <;> exact h) (fun ops HO => ?_)
              refine plan_read _ (hi_of HO rfl) rfl (fun w' hE => by (repeat (with_reducible replace hE := Ext.unD hE)); have hcE := hE.hc; clear hE; go_simp; rfl) ?_
              simp only [Act.put, List.setIfInBounds_toArray, List.set_cons_succ, List.set_cons_zero]
              refine plan_read _ (hi_of HO rfl) rfl (fun w' hE => by (repeat (with_reducible replace hE := Ext.unD hE)); have hcE := hE.hc; clear hE; go_simp; rfl) ?_
              simp only [Act.put, List.setIfInBounds_toArray, List.set_cons_succ, List.set_cons_zero]
              refine plan_read _ (hi_of HO rfl) rfl (fun w' hE => by (repeat (with_reducible replace hE := Ext.unD hE)); have hcE := hE.hc; clear hE; go_simp; rfl) ?_
              simp only [Act.put, List.setIfInBounds_toArray, List.set_cons_succ, List.set_cons_zero]
              refine plan_read _ (hi_of HO rfl) rfl (fun w' hE => by (repeat (with_reducible replace hE := Ext.unD hE)); have hcE := hE.hc; clear hE; go_simp; rfl) ?_
              simp only [Act.put, List.setIfInBounds_toArray, List.set_cons_succ, List.set_cons_zero]
              refine plan_read _ (hi_of HO rfl) rfl (fun w' hE => by (repeat (with_reducible replace hE := Ext.unD hE)); have hcE := hE.hc; clear hE; go_simp; rfl) ?_
              simp only [Act.put, List.setIfInBounds_toArray, List.set_cons_succ, List.set_cons_zero]
              refine plan_read _ (hi_of HO rfl) rfl (fun w' hE => by (repeat (with_reducible replace hE := Ext.unD hE)); have hcE := hE.hc; clear hE; go_simp; rfl) ?_
              simp only [Act.put, List.setIfInBounds_toArray, List.set_cons_succ, List.set_cons_zero]
              refine plan_read _ (hi_of HO rfl) rfl (fun w' hE => by (repeat (with_reducible replace hE := Ext.unD hE)); have hcE := hE.hc; clear hE; go_simp; rfl) ?_
              simp only [Act.put, List.setIfInBounds_toArray, List.set_cons_succ, List.set_cons_zero]
              refine plan_read _ (hi_of HO rfl) rfl (fun w' hE => by (repeat (with_reducible replace hE := Ext.unD hE)); have hcE := hE.hc; clear hE; go_simp; rfl) ?_
              simp only [Act.put, List.setIfInBounds_toArray, List.set_cons_succ, List.set_cons_zero]
              refine plan_read _ (hi_of HO rfl) rfl (fun w' hE => by (repeat (with_reducible replace hE := Ext.unD hE)); have hcE := hE.hc; clear hE; go_simp; rfl) ?_
              simp only [Act.put, List.setIfInBounds_toArray, List.set_cons_succ, List.set_cons_zero]
              refine plan_done ?fin105
              go_wp2
              go_ret
              exact ⟨ret_int HRE'.out, by rw [← HRA'.out]; exact rgpost_ext H.out (by first | exact Ext.trans _ _ _ HX1.out HX.out | exact Ext.drew (Ext.trans _ _ _ HX1.out HX.out) | exact Ext.drew (Ext.drew (Ext.trans _ _ _ HX1.out HX.out)))⟩
          · have hvd : decide (y.ctr = x.ctr ∧ y.node = x.node) = false := decide_eq_false hv
            have HNE := hid_mk (show ¬ nk y = nk x from fun e => hv ⟨congrArg NK.c e, congrArg NK.n e⟩)
            clear hv
            go_wp2_with fail
            refine wp_region_held_below (fun _ => true) (.quiet 0 (.quiet 1 (.quiet 2 (.quiet 3 (.quiet 4 (.quiet 5 (.quiet 6 (.quiet 7 (.quiet 8 (.quiet 9 (.quiet 10 (.quiet 11 (.quiet 12 (.quiet 13 (.quiet 14 (.quiet 15 (.quiet 16 (.quiet 17 (.quiet 18 (.quiet 19 (.quiet 20 (.quiet 21 (.quiet 22 (.quiet 23 .done)))))))))))))))))))))))) (by kernel_rfl) (by kernel_rfl) (by intro c a w d v h; cases d <;> exact h) (fun ops HO => ?_)
            refine plan_read _ (hi_of HO rfl) rfl (fun w' hE => by (repeat (with_reducible replace hE := Ext.unD hE)); have hcE := hE.hc; clear hE; go_simp; rfl) ?_
            simp only [Act.put, List.setIfInBounds_toArray, List.set_cons_succ, List.set_cons_zero]
            refine plan_read _ (hi_of HO rfl) rfl (fun w' hE => by (repeat (with_reducible replace hE := Ext.unD hE)); have hcE := hE.hc; clear hE; go_simp; rfl) ?_
            simp only [Act.put, List.setIfInBounds_toArray, List.set_cons_succ, List.set_cons_zero]
            refine plan_read _ (hi_of HO rfl) rfl (fun w' hE => by (repeat (with_reducible replace hE := Ext.unD hE)); have hcE := hE.hc; clear hE; go_simp; rfl) ?_
            simp only [Act.put, List.setIfInBounds_toArray, List.set_cons_succ, List.set_cons_zero]
            refine plan_read _ (hi_of HO rfl) rfl (fun w' hE => by (repeat (with_reducible replace hE := Ext.unD hE)); have hcE := hE.hc; clear hE; go_simp; rfl) ?_
            simp only [Act.put, List.setIfInBounds_toArray, List.set_cons_succ, List.set_cons_zero]
            refine plan_read _ (hi_of HO rfl) rfl (fun w' hE => by (repeat (with_reducible replace hE := Ext.unD hE)); have hcE := hE.hc; clear hE; go_simp; rfl) ?_
            simp only [Act.put, List.setIfInBounds_toArray, List.set_cons_succ, List.set_cons_zero]
            refine plan_read _ (hi_of HO rfl) rfl (fun w' hE => by (repeat (with_reducible replace hE := Ext.unD hE)); have hcE := hE.hc; clear hE; go_simp; rfl) ?_
            simp only [Act.put, List.setIfInBounds_toArray, List.set_cons_succ, List.set_cons_zero]
            refine plan_read _ (hi_of HO rfl) rfl (fun w' hE => by (repeat (with_reducible replace hE := Ext.unD hE)); have hcE := hE.hc; clear hE; go_simp; rfl) ?_
            simp only [Act.put, List.setIfInBounds_toArray, List.set_cons_succ, List.set_cons_zero]
            refine plan_read _ (hi_of HO rfl) rfl (fun w' hE => by (repeat (with_reducible replace hE := Ext.unD hE)); have hcE := hE.hc; clear hE; go_simp; rfl) ?_
            simp only [Act.put, List.setIfInBounds_toArray, List.set_cons_succ, List.set_cons_zero]
            refine plan_read _ (hi_of HO rfl) rfl (fun w' hE => by (repeat (with_reducible replace hE := Ext.unD hE)); have hcE := hE.hc; clear hE; go_simp; rfl) ?_
            simp only [Act.put, List.setIfInBounds_toArray, List.set_cons_succ, List.set_cons_zero]
            refine plan_read _ (hi_of HO rfl) rfl (fun w' hE => by (repeat (with_reducible replace hE := Ext.unD hE)); have hcE := hE.hc; clear hE; go_simp; rfl) ?_
            simp only [Act.put, List.setIfInBounds_toArray, List.set_cons_succ, List.set_cons_zero]
            refine plan_read _ (hi_of HO rfl) rfl (fun w' hE => by (repeat (with_reducible replace hE := Ext.unD hE)); have hcE := hE.hc; clear hE; go_simp; rfl) ?_
            simp only [Act.put, List.setIfInBounds_toArray, List.set_cons_succ, List.set_cons_zero]
            refine plan_read _ (hi_of HO rfl) rfl (fun w' hE => by (repeat (with_reducible replace hE := Ext.unD hE)); have hcE := hE.hc; clear hE; go_simp; rfl) ?_
            simp only [Act.put, List.setIfInBounds_toArray, List.set_cons_succ, List.set_cons_zero]
            refine plan_read _ (hi_of HO rfl) (by rw [HO.out]; rfl) (fun w' hE => by (repeat (with_reducible replace hE := Ext.unD hE)); have hcE := hE.hc; clear hE; go_simp; rfl) ?_
            simp only [Act.put, List.setIfInBounds_toArray, List.set_cons_succ, List.set_cons_zero]
            refine plan_read _ (hi_of HO rfl) (by rw [HO.out]; rfl) (fun w' hE => by (repeat (with_reducible replace hE := Ext.unD hE)); have hcE := hE.hc; clear hE; go_simp; rfl) ?_
            simp only [Act.put, List.setIfInBounds_toArray, List.set_cons_succ, List.set_cons_zero]
            refine plan_read _ (hi_of HO rfl) (by rw [HO.out]; rfl) (fun w' hE => by (repeat (with_reducible replace hE := Ext.unD hE)); have hcE := hE.hc; clear hE; go_simp; rfl) ?_
            simp only [Act.put, List.setIfInBounds_toArray, List.set_cons_succ, List.set_cons_zero]
            refine plan_read _ (hi_of HO rfl) (by rw [HO.out]; rfl) (fun w' hE => by (repeat (with_reducible replace hE := Ext.unD hE)); have hcE := hE.hc; clear hE; go_simp; rfl) ?_
            simp only [Act.put, List.setIfInBounds_toArray, List.set_cons_succ, List.set_cons_zero]
            refine plan_read _ (hi_of HO rfl) (by rw [HO.out]; rfl) (fun w' hE => by (repeat (with_reducible replace hE := Ext.unD hE)); have hcE := hE.hc; clear hE; go_simp; rfl) ?_
            simp only [Act.put, List.setIfInBounds_toArray, List.set_cons_succ, List.set_cons_zero]
            refine plan_read _ (hi_of HO rfl) (by rw [HO.out]; rfl) (fun w' hE => by (repeat (with_reducible replace hE := Ext.unD hE)); have hcE := hE.hc; clear hE; go_simp; rfl) ?_
            simp only [Act.put, List.setIfInBounds_toArray, List.set_cons_succ, List.set_cons_zero]
            refine plan_read _ (hi_of HO rfl) (by rw [HO.out]; rfl) (fun w' hE => by (repeat (with_reducible replace hE := Ext.unD hE)); have hcE := hE.hc; clear hE; go_simp; rfl) ?_
            simp only [Act.put, List.setIfInBounds_toArray, List.set_cons_succ, List.set_cons_zero]
            refine plan_read _ (hi_of HO rfl) (by rw [HO.out]; rfl) (fun w' hE => by (repeat (with_reducible replace hE := Ext.unD hE)); have hcE := hE.hc; clear hE; go_simp; rfl) ?_
            simp only [Act.put, List.setIfInBounds_toArray, List.set_cons_succ, List.set_cons_zero]
            refine plan_read _ (hi_of HO rfl) (by rw [HO.out]; rfl) (fun w' hE => by (repeat (with_reducible replace hE := Ext.unD hE)); have hcE := hE.hc; clear hE; go_simp; rfl) ?_
            simp only [Act.put, List.setIfInBounds_toArray, List.set_cons_succ, List.set_cons_zero]
            refine plan_read _ (hi_of HO rfl) (by rw [HO.out]; rfl) (fun w' hE => by (repeat (with_reducible replace hE := Ext.unD hE)); have hcE := hE.hc; clear hE; go_simp; rfl) ?_
            simp only [Act.put, List.setIfInBounds_toArray, List.set_cons_succ, List.set_cons_zero]
            refine plan_read _ (hi_of HO rfl) (by rw [HO.out]; rfl) (fun w' hE => by (repeat (with_reducible replace hE := Ext.unD hE)); have hcE := hE.hc; clear hE; go_simp; rfl) ?_
            simp only [Act.put, List.setIfInBounds_toArray, List.set_cons_succ, List.set_cons_zero]
            refine plan_read _ (hi_of HO rfl) rfl (fun w' hE => by (repeat (with_reducible replace hE := Ext.unD hE)); have hcE := hE.hc; clear hE; go_simp; rfl) ?_
            simp only [Act.put, List.setIfInBounds_toArray, List.set_cons_succ, List.set_cons_zero]
            refine plan_done ?fin106
            go_wp2
            go_roundw
            case rel =>
              refine ⟨k + 1, by omega, (by first | exact congrArg (Value.int .i64) HW.out | rfl), fun z hz => ?_, by first | exact HX.out | exact Ext.drew HX.out⟩
              rw [HT.out] at hz
              rcases List.mem_append.1 hz with hz | hz
              · exact HF.out z hz
              · rw [List.mem_singleton] at hz
                rw [hz]; exact HNE.out
            case measure => (try simp only [HW.out]); simp [intOf]; omega
      · obtain rfl : k = A.length := by omega
        have hmm : ¬ ((A.length : Nat) : Int) < (A.length : Int) := by omega
        rw [List.take_length] at HF
        have HFN := hid_mk (show findN (nk x) A = none from List.find?_eq_none.2 (fun y hy => by simpa using HF.out y hy))
        have HRE' := hid_mk (show 0 = re by rw [← HRE.out, wroteE_none HZ.out HFN.out])
        have HRA' := hid_mk (show A ++ [x] = rA by rw [← HRA.out, wroteA_none HZ.out HFN.out])
        have HW := hid_mk (H.out.ext (Ext.trans _ _ _ HX1.out HX.out))
        have hxd : Ext wr (wr.alloc (.cells #[.string x.key, .int .i64 x.ctr, .int .i64 x.node, .string x.val, .bool x.dead] 31)).drew := by (repeat (first | exact Ext.refl _ | apply Ext.drew_left | apply Ext.drew | apply Ext.alloc))
        obtain ⟨v', w', hrun, ho, hg, hob⟩ := appendE (HW.out.ext hxd).own (lv := .slice (some ⟨wr.heap.size, 0, none⟩) 1 1) (L := [x]) ⟨_, 1, rfl, Nat.le_refl _, by simp, fun _ => ⟨_, 0, rfl, fun i hi => by
          obtain rfl : i = 0 := by simpa using hi
          exact ⟨by go_simp, by go_simp, by go_simp, by go_simp, by go_simp⟩⟩⟩ (by have := HLEN.out; simp; omega) (by have := HW.out.lo.2; simp; omega)
        have hP := HW.out.stored hxd hg ho hob
        have hbz := ((hg.block rb (by have := HW.out.lt.1; simp; omega) (fun e => HW.out.lt.2.2 e.symm)).trans ((hxd.below.block rb HW.out.lt.1).trans HW.out.blk))
        have z0 : w'.cell? ⟨rb, 0, none⟩ = some (.slice a A.length c) := by simp [World.cell?, hbz]
        have z1 : w'.frozen? ⟨rb, 0, none⟩ = false := by simp [World.frozen?, hbz]
        have zl := cell_lt z0
        obtain ⟨va, vc, rfl⟩ := own_form ho
        rw [show (A ++ [x]).length = A.length + 1 by simp] at hP hrun
        have HP := hid_mk (rgpost_from (Ext.trans _ _ _ HX1.out HX.out) hP)
        clear ho hg hob hxd hbz hP
        go_wp2
        go_region
        go_wp2
        go_ret
        exact ⟨ret_int HRE'.out, by rw [← HRA'.out]; exact HP.out⟩
  · go_wp2
    go_ret
    exact ⟨ret_int (by rw [← HRE.out, wroteE, if_pos (by rw [eChk, HZ.out]; exact hz), eChk, HZ.out]), by rw [← HRA.out, wroteA, if_pos (by rw [eChk, HZ.out]; exact hz)]; exact rgpost_ext H.out HX1.out⟩
end Go.Proofs.Ytiimoaplhhnklaa
