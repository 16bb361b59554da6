/- The document's ghosts: New, Written, Held, Wrote. -/
import Derived.Test.YtiimoaplhhnklaaHP
namespace Go.Proofs.Ytiimoaplhhnklaa
open Go.RowKit
set_option maxHeartbeats 4000000
set_option maxRecDepth 100000
set_option linter.unusedSimpArgs false
set_option linter.unusedVariables false
attribute [local go_sem ↓] eql_entE neq_entE
attribute [-go_sem] Builtin.append_
theorem en_rGhNew : Enters Try.prog 11 := ⟨_, Try.func11, by kernel_rfl, rfl⟩
theorem en_rGhWritten : Enters Try.prog 34 := ⟨_, Try.func34, by kernel_rfl, rfl⟩
theorem en_rGhHeld : Enters Try.prog 15 := ⟨_, Try.func15, by kernel_rfl, rfl⟩
theorem en_rGhWrote : Enters Try.prog 33 := ⟨_, Try.func33, by kernel_rfl, rfl⟩
theorem en_rGhSees : Enters Try.prog 36 := ⟨_, Try.func36, by kernel_rfl, rfl⟩
theorem en_r9Pairs : Enters Try.prog 61 := ⟨_, Try.func61, by kernel_rfl, rfl⟩
def rfp (rb : Nat) (rv : Value) : List Nat := rb :: rv.ownBlock.toList
structure RhAt (B : Nat) (w : World) (rb : Nat) (rv : Value) (A : List Ent) (sv : Nat → Value) (ls : Nat → List Ent) : Prop where
  blk : w.heap[rb]? = some (.cells #[rv, sv 0, sv 1, sv 2, sv 3, sv 4, sv 5, sv 6, sv 7] 88 (0, 0))
  own : OwEn w B rv A
  sl : ∀ i, i < 8 → EntSl w (sv i) (ls i)
  aw : ∀ i, i < 8 → EAway (rfp rb rv) (sv i)
  lo : B ≤ rb ∧ B ≤ w.heap.size
section
variable {B : Nat} {w w' : World} {rb : Nat} {rv : Value} {A : List Ent} {sv : Nat → Value} {ls : Nat → List Ent}
theorem RhAt.lt (h : RhAt B w rb rv A sv ls) : rb < w.heap.size ∧ (∀ g, rv.ownBlock = some g → B ≤ g ∧ g < w.heap.size) ∧ rv.ownBlock ≠ some rb := by
  have hb := h.blk
  refine ⟨(Array.getElem?_eq_some_iff.1 hb).1, fun g hg => World.ownsRow.lt h.own g hg, fun e => ?_⟩
  rcases h.own.2 with ⟨e1, -⟩ | ⟨g, cap, cur, e1, -, e2, -⟩
  · rw [e1] at e; cases e
  · rw [e1] at e; cases e; rw [hb] at e2; cases e2
theorem RhAt.fp_lt (h : RhAt B w rb rv A sv ls) : ∀ x ∈ rfp rb rv, B ≤ x ∧ x < w.heap.size := fun x hx => by
  simp [rfp] at hx
  rcases hx with rfl | hx
  · exact ⟨h.lo.1, h.lt.1⟩
  · exact h.lt.2.1 x hx
theorem RhAt.c0 (h : RhAt B w rb rv A sv ls) : w.cell? ⟨rb, 0, none⟩ = some rv ∧ w.frozen? ⟨rb, 0, none⟩ = false := ⟨by simp [World.cell?, h.blk], by simp [World.frozen?, h.blk]⟩
theorem RhAt.cs (h : RhAt B w rb rv A sv ls) {k : Nat} (hk : k < 8) : w.cell? ⟨rb, 1 + k, none⟩ = some (sv k) ∧ w.frozen? ⟨rb, 1 + k, none⟩ = false := by
  match k, hk with
  | 0, _ | 1, _ | 2, _ | 3, _ | 4, _ | 5, _ | 6, _ | 7, _ => exact ⟨by simp [World.cell?, h.blk], by simp [World.frozen?, h.blk]⟩
theorem RhAt.away {L : List Nat} (h : RhAt B w rb rv A sv ls) (hx : Xl L w w') (h1 : ∀ x ∈ rfp rb rv, x ∉ L) (h3 : ∀ i, i < 8 → EAway L (sv i)) : RhAt B w' rb rv A sv ls :=
  ⟨(hx.block rb h.lt.1 (h1 _ (by simp [rfp]))).trans h.blk, h.own.xl hx (fun g hg => h1 _ (by simp [rfp, hg])), fun i hi => (h.sl i hi).xl hx (h3 i hi), h.aw, ⟨h.lo.1, Nat.le_trans h.lo.2 hx.size⟩⟩
theorem RhAt.ext (h : RhAt B w rb rv A sv ls) (hx : Ext w w') : RhAt B w' rb rv A sv ls := h.away (L := []) (Xl.of hx) (by simp) (fun i hi b o n c e hn => by simp)
/-- What a call leaves of a document's ghost. -/
def RGPost (B : Nat) (w : World) (rb : Nat) (rv : Value) (sv : Nat → Value) (A' : List Ent) (ls' : Nat → List Ent) (w' : World) : Prop :=
  ∃ rv' sv', RhAt B w' rb rv' A' sv' ls' ∧ Xl (rfp rb rv) w w' ∧ (rv'.ownBlock = rv.ownBlock ∨ ∀ g, rv'.ownBlock = some g → w.heap.size ≤ g) ∧ ∀ i, i < 8 → sv' i = sv i ∨ ∀ b o n c, sv' i = .slice (some ⟨b, o, none⟩) n c → 0 < n → w.heap.size ≤ b
theorem rgpost_ext (h : RhAt B w rb rv A sv ls) (hx : Ext w w') : RGPost B w rb rv sv A ls w' := ⟨rv, sv, h.ext hx, Xl.of hx, .inl rfl, fun i hi => .inl rfl⟩
end
theorem rgnew_any (w : World) : Calls Try.prog 11 #[] w fun e w' => ∃ rb, e = .returned (.pointer (some ⟨rb, 0, none⟩)) ∧ w.heap.size ≤ rb ∧ RhAt w.heap.size w' rb (.slice none 0 0) [] (fun _ => .slice none 0 0) (fun _ => []) ∧ Ext w w' := by
  go_enter Try.func11, Try.ntmps11
  go_wp2
  go_ret
  exact ⟨w.heap.size, rfl, Nat.le_refl _, ⟨heap_alloc_new w _, ownE_nil _ _, fun i hi => ⟨none, 0, rfl, Nat.le_refl _, by simp, fun h => by simp at h⟩, fun i hi b o n c e hn => (by cases e), Nat.le_refl _, by simp⟩, by (repeat (first | exact Ext.refl _ | apply Ext.drew_left | apply Ext.drew | apply Ext.alloc))⟩
theorem rwritten_any {B : Nat} {w : World} {rb : Nat} {rv : Value} {A : List Ent} {sv : Nat → Value} {ls : Nat → List Ent} (h : RhAt B w rb rv A sv ls) (x : Ent) (hl : A.length ≤ 100000000) :
    Calls Try.prog 34 #[.pointer (some ⟨rb, 0, none⟩), entV x] w fun e w' => e = .returned (.bool (decide (x ∈ A))) ∧ Ext w w' := by
  have h0 := h.c0.1
  obtain ⟨a, c, rfl, hac, ha63, hca⟩ := h.own.sl (by omega)
  have HC := hid_mk hca
  have HC0 := hid_mk h0
  obtain ⟨r, hr⟩ : ∃ r, decide (x ∈ A) = r := ⟨_, rfl⟩
  have HR := hid_mk hr
  rw [hr]
  clear hca h hr h0
  dsimp only [entV]
  go_enter Try.func34, Try.ntmps34
  go_wp2_with fail
  refine gen_codeH (fun W1 => Ext w W1 ∧ EntAt W1 w.heap.size 0 x) ⟨by (repeat (first | exact Ext.refl _ | apply Ext.drew_left | apply Ext.drew | apply Ext.alloc)), ⟨by go_simp, by go_simp, by go_simp, by go_simp, by go_simp⟩⟩ ?_
  rintro W1 ⟨hx1, he1⟩
  have HX1 := hid_mk hx1
  have HE1 := hid_mk he1
  obtain ⟨xb, hxb⟩ : ∃ xb, w.heap.size = xb := ⟨_, rfl⟩
  rw [hxb] at HE1 ⊢
  clear hx1 he1 hxb
  go_loopw [5] (fun i wr => ∃ k : Nat, k ≤ A.length ∧ i = .int .i64 (k : Int) ∧ (∀ y ∈ A.take k, ¬ y = x) ∧ Ext W1 wr) (fun i _ => A.length - (intOf i).toNat)
  case atStart => exact ⟨0, Nat.zero_le _, rfl, by simp, Ext.refl _⟩
  case round =>
    obtain ⟨k, hk, rfl, hf, hx⟩ := hrel
    have HF := hid_mk hf
    have HX := hid_mk hx
    have r0 := cell_ext (Ext.trans _ _ _ HX1.out hx) HC0.out
    have hrl := cell_lt r0
    obtain ⟨e0, e1, e2, e3, e4⟩ := HE1.out.ext hx
    have hel := cell_lt e0
    clear hf hx
    by_cases hlt : k < A.length
    · obtain ⟨b, o, rfl, hcl⟩ := HC.out (by omega)
      obtain ⟨a0, a1, a2, a3, a4⟩ := (hcl k hlt).ext (Ext.trans _ _ _ HX1.out HX.out)
      have hbl := cell_lt a0
      have HT := hid_mk (show A.take (k + 1) = A.take k ++ [A[k]] from List.take_succ_eq_append_getElem hlt)
      have HM := hid_mk (show A[k] ∈ A from List.getElem_mem hlt)
      obtain ⟨y, hy⟩ : ∃ y, A[k] = y := ⟨_, rfl⟩
      rw [hy] at a0 a1 a2 a3 a4 HT HM
      have hk1 : (k : Int) < (A.length : Int) := by omega
      have hk0 : (0 : Int) ≤ (k : Int) := by omega
      have HW := hid_mk (show wrap64 ((k : Int) + 1) = (k : Int) + 1 from w64in (by omega))
      clear hcl hy
      by_cases hyx : y = x
      · have hne : decide (y = x) = true := decide_eq_true hyx
        have HE := hid_mk (show r = true by rw [← HR.out]; exact decide_eq_true (hyx ▸ HM.out))
        clear hyx
        go_wp2_with fail
        refine wp_region_held_below (fun _ => true) (.quiet 0 (.quiet 1 (.quiet 2 (.quiet 3 (.quiet 4 (.quiet 5 (.quiet 6 (.quiet 7 (.quiet 8 .done))))))))) (by kernel_rfl) (by kernel_rfl) (by intro c a w d v h; cases d <;> exact h) (fun ops HO => ?_)
        refine plan_read _ (hi_of HO rfl) rfl (fun w' hE => by (repeat (with_reducible replace hE := Ext.unD hE)); have hcE := hE.hc; clear hE; go_simp; rfl) ?_
        simp only [Act.put, List.setIfInBounds_toArray, List.set_cons_succ, List.set_cons_zero]
        refine plan_read _ (hi_of HO rfl) rfl (fun w' hE => by (repeat (with_reducible replace hE := Ext.unD hE)); have hcE := hE.hc; clear hE; go_simp; rfl) ?_
        simp only [Act.put, List.setIfInBounds_toArray, List.set_cons_succ, List.set_cons_zero]
        refine plan_read _ (hi_of HO rfl) rfl (fun w' hE => by (repeat (with_reducible replace hE := Ext.unD hE)); have hcE := hE.hc; clear hE; go_simp; rfl) ?_
        simp only [Act.put, List.setIfInBounds_toArray, List.set_cons_succ, List.set_cons_zero]
        refine plan_read _ (hi_of HO rfl) rfl (fun w' hE => by (repeat (with_reducible replace hE := Ext.unD hE)); have hcE := hE.hc; clear hE; go_simp; rfl) ?_
        simp only [Act.put, List.setIfInBounds_toArray, List.set_cons_succ, List.set_cons_zero]
        refine plan_read _ (hi_of HO rfl) rfl (fun w' hE => by (repeat (with_reducible replace hE := Ext.unD hE)); have hcE := hE.hc; clear hE; go_simp; rfl) ?_
        simp only [Act.put, List.setIfInBounds_toArray, List.set_cons_succ, List.set_cons_zero]
        refine plan_read _ (hi_of HO rfl) rfl (fun w' hE => by (repeat (with_reducible replace hE := Ext.unD hE)); have hcE := hE.hc; clear hE; go_simp; rfl) ?_
        simp only [Act.put, List.setIfInBounds_toArray, List.set_cons_succ, List.set_cons_zero]
        refine plan_read _ (hi_of HO rfl) rfl (fun w' hE => by (repeat (with_reducible replace hE := Ext.unD hE)); have hcE := hE.hc; clear hE; go_simp; rfl) ?_
        simp only [Act.put, List.setIfInBounds_toArray, List.set_cons_succ, List.set_cons_zero]
        refine plan_read _ (hi_of HO rfl) rfl (fun w' hE => by (repeat (with_reducible replace hE := Ext.unD hE)); have hcE := hE.hc; clear hE; go_simp; rfl) ?_
        simp only [Act.put, List.setIfInBounds_toArray, List.set_cons_succ, List.set_cons_zero]
        refine plan_read _ (hi_of HO rfl) rfl (fun w' hE => by (repeat (with_reducible replace hE := Ext.unD hE)); have hcE := hE.hc; clear hE; go_simp; rfl) ?_
        simp only [Act.put, List.setIfInBounds_toArray, List.set_cons_succ, List.set_cons_zero]
        refine plan_done ?fin101
        go_wp2
        go_ret
        exact ⟨ret_bool HE.out.symm, by first | exact Ext.trans _ _ _ HX1.out HX.out | exact Ext.drew (Ext.trans _ _ _ HX1.out HX.out)⟩
      · have hne : decide (y = x) = false := decide_eq_false hyx
        have HN := hid_mk hyx
        clear hyx
        go_wp2_with fail
        refine wp_region_held_below (fun _ => true) (.quiet 0 (.quiet 1 (.quiet 2 (.quiet 3 (.quiet 4 (.quiet 5 (.quiet 6 (.quiet 7 (.quiet 8 .done))))))))) (by kernel_rfl) (by kernel_rfl) (by intro c a w d v h; cases d <;> exact h) (fun ops HO => ?_)
        refine plan_read _ (hi_of HO rfl) rfl (fun w' hE => by (repeat (with_reducible replace hE := Ext.unD hE)); have hcE := hE.hc; clear hE; go_simp; rfl) ?_
        simp only [Act.put, List.setIfInBounds_toArray, List.set_cons_succ, List.set_cons_zero]
        refine plan_read _ (hi_of HO rfl) rfl (fun w' hE => by (repeat (with_reducible replace hE := Ext.unD hE)); have hcE := hE.hc; clear hE; go_simp; rfl) ?_
        simp only [Act.put, List.setIfInBounds_toArray, List.set_cons_succ, List.set_cons_zero]
        refine plan_read _ (hi_of HO rfl) rfl (fun w' hE => by (repeat (with_reducible replace hE := Ext.unD hE)); have hcE := hE.hc; clear hE; go_simp; rfl) ?_
        simp only [Act.put, List.setIfInBounds_toArray, List.set_cons_succ, List.set_cons_zero]
        refine plan_read _ (hi_of HO rfl) rfl (fun w' hE => by (repeat (with_reducible replace hE := Ext.unD hE)); have hcE := hE.hc; clear hE; go_simp; rfl) ?_
        simp only [Act.put, List.setIfInBounds_toArray, List.set_cons_succ, List.set_cons_zero]
        refine plan_read _ (hi_of HO rfl) rfl (fun w' hE => by (repeat (with_reducible replace hE := Ext.unD hE)); have hcE := hE.hc; clear hE; go_simp; rfl) ?_
        simp only [Act.put, List.setIfInBounds_toArray, List.set_cons_succ, List.set_cons_zero]
        refine plan_read _ (hi_of HO rfl) rfl (fun w' hE => by (repeat (with_reducible replace hE := Ext.unD hE)); have hcE := hE.hc; clear hE; go_simp; rfl) ?_
        simp only [Act.put, List.setIfInBounds_toArray, List.set_cons_succ, List.set_cons_zero]
        refine plan_read _ (hi_of HO rfl) rfl (fun w' hE => by (repeat (with_reducible replace hE := Ext.unD hE)); have hcE := hE.hc; clear hE; go_simp; rfl) ?_
        simp only [Act.put, List.setIfInBounds_toArray, List.set_cons_succ, List.set_cons_zero]
        refine plan_read _ (hi_of HO rfl) rfl (fun w' hE => by (repeat (with_reducible replace hE := Ext.unD hE)); have hcE := hE.hc; clear hE; go_simp; rfl) ?_
        simp only [Act.put, List.setIfInBounds_toArray, List.set_cons_succ, List.set_cons_zero]
        refine plan_read _ (hi_of HO rfl) rfl (fun w' hE => by (repeat (with_reducible replace hE := Ext.unD hE)); have hcE := hE.hc; clear hE; go_simp; rfl) ?_
        simp only [Act.put, List.setIfInBounds_toArray, List.set_cons_succ, List.set_cons_zero]
        refine plan_done ?fin102
        go_wp2
        go_roundw
        case rel =>
          refine ⟨k + 1, by omega, (by first | exact congrArg (Value.int .i64) HW.out | rfl), fun z hz => ?_, by first | exact HX.out | exact Ext.drew HX.out⟩
          rw [HT.out] at hz
          rcases List.mem_append.1 hz with hz | hz
          · exact HF.out z hz
          · rw [List.mem_singleton] at hz
            rw [hz]; exact HN.out
        case measure => (try simp only [HW.out]); simp [intOf]; omega
    · obtain rfl : k = A.length := by omega
      have hmm : ¬ ((A.length : Nat) : Int) < (A.length : Int) := by omega
      rw [List.take_length] at HF
      have HE := hid_mk (show r = false by rw [← HR.out]; exact decide_eq_false (fun hm => HF.out x hm rfl))
      go_wp2
      go_ret
      exact ⟨ret_bool HE.out.symm, Ext.trans _ _ _ HX1.out HX.out⟩
theorem rheld_any {B : Nat} {w : World} {rb : Nat} {rv : Value} {A : List Ent} {sv : Nat → Value} {ls : Nat → List Ent} (h : RhAt B w rb rv A sv ls) (n : Int) (hl : ∀ i, i < 8 → (ls i).length ≤ 1000000000) :
    Calls Try.prog 15 #[.pointer (some ⟨rb, 0, none⟩), .int .i64 n] w fun e w' => ∃ v, e = .returned v ∧ ENew w.heap.size w' v (heldL n ls) ∧ Ext w w' := by
  have H := hid_mk h
  have HLEN := hid_mk hl
  clear h hl
  by_cases hneg : n < 0
  · have hb : isNd n = false := by unfold isNd; exact decide_eq_false (by omega)
    go_enter Try.func15, Try.ntmps15
    go_wp2
    go_ret
    refine ⟨_, rfl, ?_, by (repeat (first | exact Ext.refl _ | apply Ext.drew_left | apply Ext.drew | apply Ext.alloc))⟩
    rw [heldL, if_neg (by rw [hb]; simp)]
    exact ⟨⟨_, 0, rfl, Nat.le_refl _, by simp, fun h => by simp at h⟩, fun b o n c e hn => by cases e; omega⟩
  by_cases hbig : 8 ≤ n
  · have hb : isNd n = false := by unfold isNd; exact decide_eq_false (by omega)
    go_enter Try.func15, Try.ntmps15
    go_wp2
    go_ret
    refine ⟨_, rfl, ?_, by (repeat (first | exact Ext.refl _ | apply Ext.drew_left | apply Ext.drew | apply Ext.alloc))⟩
    rw [heldL, if_neg (by rw [hb]; simp)]
    exact ⟨⟨_, 0, rfl, Nat.le_refl _, by simp, fun h => by simp at h⟩, fun b o n c e hn => by cases e; omega⟩
  have hb : isNd n = true := by unfold isNd; exact decide_eq_true (by omega)
  obtain ⟨k, hk, rfl⟩ := isNd_at hb
  rw [heldL, if_pos hb, Int.toNat_natCast]
  have hx1 : Ext w (w.alloc (.cells #[] 31)) := by (repeat (first | exact Ext.refl _ | apply Ext.drew_left | apply Ext.drew | apply Ext.alloc))
  have HSL := hid_mk ((H.out.ext hx1).sl k hk)
  obtain ⟨c0, -⟩ := (H.out.ext hx1).cs hk
  have hcl := cell_lt c0
  obtain ⟨v', w', hrun, ho, hg, -⟩ := appendE (ownE_empty (w := w.alloc (.cells #[] 31)) (B := w.heap.size) (heap_alloc_new w _) (Nat.le_refl _)) HSL.out (by have := HLEN.out k hk; simp; omega) (by simp)
  have HN := hid_mk (ho.new (by have := HLEN.out k hk; simp; omega))
  rw [List.nil_append] at HN
  have HXF := hid_mk (show Ext w w' from ext_grown (base := w.heap.size) (e := 31) (size := 5) (n := 0) (xs := []) hx1 hg (ownE_empty (w := w.alloc (.cells #[] 31)) (B := w.heap.size) (heap_alloc_new w _) (Nat.le_refl _)) (Nat.le_refl _))
  obtain ⟨a9, c9, e9, -⟩ := H.out.sl k hk
  rw [e9] at c0 hrun
  obtain ⟨oa, oc, rfl⟩ := own_form ho
  have hk8 : (k : Int) < 8 := by omega
  have hk0 : (0 : Int) ≤ (k : Int) := by omega
  have hk9 : ¬ (8 : Int) ≤ (k : Int) := by omega
  have hkn : ¬ (k : Int) < 0 := by omega
  clear ho hg hx1 e9 hb hneg hbig
  go_enter Try.func15, Try.ntmps15
  go_wp2
  go_ret
  exact ⟨_, rfl, HN.out, HXF.out⟩
end Go.Proofs.Ytiimoaplhhnklaa
