/- Stores: rank, lay, Fold. Stores: lay. Stores: Take. -/
import Derived.Test.YtokcgnbjkbhmiaaDoorMQA
import Derived.Test.YtokcgnbjkbhmiaaDoorMTG4
namespace Go.Proofs.YtokcgnbjkbhmiaaDoor
open Go.RowKit Go.Lib
set_option maxHeartbeats 4000000
set_option maxRecDepth 100000
set_option linter.unusedSimpArgs false
set_option linter.unusedVariables false
theorem en_stRank0 : Enters Tryd.prog 67 := ⟨_, Tryd.func67, by kernel_rfl, rfl⟩
theorem en_stLay0 : Enters Tryd.prog 65 := ⟨_, Tryd.func65, by kernel_rfl, rfl⟩
theorem en_stFold : Enters Tryd.prog 29 := ⟨_, Tryd.func29, by kernel_rfl, rfl⟩
section
variable {w : World} {sb mb tb n : Nat} {s : St}
theorem stRank_any (lo hi : ByteArray) (op : Bool) (h : StW w sb mb tb n s) : Calls Tryd.prog 67 #[.pointer (some ⟨sb, 0, none⟩), .agg #[.string lo, .string hi, .bool op]] w fun e w' =>
    e = .returned (.tuple #[.int .i64 ((cntE lo s.l : Nat) : Int), .int .i64 ((hiE hi op s.l : Nat) : Int)]) ∧ Ext w w' := by
  have HS := hid_mk h
  have c3 := h.c3
  have hsl := h.lt
  have hsl1 : sb < w.heap.size + 1 := by omega
  have hsn : ¬ sb = w.heap.size := by omega
  clear h
  cases op with
  | true =>
    go_enter Tryd.func67, Tryd.ntmps67
    go_wp2_with fail
    refine wp_region_held_below (fun _ => true) (.quiet 0 (.quiet 1 (.quiet 2 (.quiet 3 (.quiet 4 (.quiet 5 (.quiet 6 (.quiet 7 (.quiet 8 (.quiet 9 (.quiet 10 (.quiet 11 (.quiet 12 (.quiet 13 .done)))))))))))))) (by kernel_rfl) (by kernel_rfl) (by intro c a w d v h; cases d <;> exact h) (fun ops HO => ?_)
    refine plan_read _ (hi_of HO rfl) rfl (fun w' hE => by (repeat (with_reducible replace hE := Ext.unD hE)); have hcE := hE.hc; clear hE; go_simp; rfl) ?_
    simp only [Act.put, List.setIfInBounds_toArray, List.set_cons_succ, List.set_cons_zero]
    refine plan_read _ (hi_of HO rfl) rfl (fun w' hE => by (repeat (with_reducible replace hE := Ext.unD hE)); have hcE := hE.hc; clear hE; go_simp; rfl) ?_
    simp only [Act.put, List.setIfInBounds_toArray, List.set_cons_succ, List.set_cons_zero]
    refine plan_read _ (hi_of HO rfl) rfl (fun w' hE => by (repeat (with_reducible replace hE := Ext.unD hE)); have hcE := hE.hc; clear hE; go_simp; rfl) ?_
    simp only [Act.put, List.setIfInBounds_toArray, List.set_cons_succ, List.set_cons_zero]
    refine plan_read _ (hi_of HO rfl) rfl (fun w' hE => by (repeat (with_reducible replace hE := Ext.unD hE)); have hcE := hE.hc; clear hE; go_simp; rfl) ?_
    simp only [Act.put, List.setIfInBounds_toArray, List.set_cons_succ, List.set_cons_zero]
    refine plan_read _ (hi_of HO rfl) rfl (fun w' hE => by (repeat (with_reducible replace hE := Ext.unD hE)); have hcE := hE.hc; clear hE; go_simp; rfl) ?_
    simp only [Act.put, List.setIfInBounds_toArray, List.set_cons_succ, List.set_cons_zero]
    refine plan_read _ (hi_of HO rfl) rfl (fun w' hE => by (repeat (with_reducible replace hE := Ext.unD hE)); have hcE := hE.hc; clear hE; go_simp; rfl) ?_
    simp only [Act.put, List.setIfInBounds_toArray, List.set_cons_succ, List.set_cons_zero]
    refine plan_pure _ en_TRank4 (hi_of HO rfl) rfl rfl (by go_simp; rfl) (fun w' hE => by exact (rankS lo (HS.out.ext (Ext.trans _ _ _ (by (repeat (first | exact Ext.refl _ | apply Ext.drew_left | apply Ext.drew | apply Ext.alloc))) hE)))) ?_
    simp only [Act.put, List.setIfInBounds_toArray, List.set_cons_succ, List.set_cons_zero]
    refine plan_read _ (hi_of HO rfl) rfl (fun w' hE => by (repeat (with_reducible replace hE := Ext.unD hE)); have hcE := hE.hc; clear hE; go_simp; rfl) ?_
    simp only [Act.put, List.setIfInBounds_toArray, List.set_cons_succ, List.set_cons_zero]
    refine plan_read _ (hi_of HO rfl) rfl (fun w' hE => by (repeat (with_reducible replace hE := Ext.unD hE)); have hcE := hE.hc; clear hE; go_simp; rfl) ?_
    simp only [Act.put, List.setIfInBounds_toArray, List.set_cons_succ, List.set_cons_zero]
    refine plan_read _ (hi_of HO rfl) rfl (fun w' hE => by (repeat (with_reducible replace hE := Ext.unD hE)); have hcE := hE.hc; clear hE; go_simp; rfl) ?_
    simp only [Act.put, List.setIfInBounds_toArray, List.set_cons_succ, List.set_cons_zero]
    refine plan_read _ (hi_of HO rfl) rfl (fun w' hE => by (repeat (with_reducible replace hE := Ext.unD hE)); have hcE := hE.hc; clear hE; go_simp; rfl) ?_
    simp only [Act.put, List.setIfInBounds_toArray, List.set_cons_succ, List.set_cons_zero]
    refine plan_pure _ en_TLen4 (hi_of HO rfl) rfl rfl (by go_simp; rfl) (fun w' hE => by exact (lenS (HS.out.ext (Ext.trans _ _ _ (by (repeat (first | exact Ext.refl _ | apply Ext.drew_left | apply Ext.drew | apply Ext.alloc))) hE)))) ?_
    simp only [Act.put, List.setIfInBounds_toArray, List.set_cons_succ, List.set_cons_zero]
    refine plan_read _ (hi_of HO rfl) rfl (fun w' hE => by (repeat (with_reducible replace hE := Ext.unD hE)); have hcE := hE.hc; clear hE; go_simp; rfl) ?_
    simp only [Act.put, List.setIfInBounds_toArray, List.set_cons_succ, List.set_cons_zero]
    refine plan_read _ (hi_of HO rfl) rfl (fun w' hE => by (repeat (with_reducible replace hE := Ext.unD hE)); have hcE := hE.hc; clear hE; go_simp; rfl) ?_
    simp only [Act.put, List.setIfInBounds_toArray, List.set_cons_succ, List.set_cons_zero]
    refine plan_done ?fin101
    go_wp2
    refine bodyPost_ret (v := .tuple #[.int .i64 ((cntE lo s.l : Nat) : Int), .int .i64 ((s.l.length : Nat) : Int)]) (by unfold results; rw [Tryd.results67]; go_simp; first | done | rfl) rfl ⟨by simp [hiE], by (repeat (first | exact Ext.refl _ | apply Ext.drew_left | apply Ext.drew | apply Ext.alloc))⟩
  | false =>
    go_enter Tryd.func67, Tryd.ntmps67
    go_wp2_with fail
    refine wp_region_held_below (fun _ => true) (.quiet 0 (.quiet 1 (.quiet 2 (.quiet 3 (.quiet 4 (.quiet 5 (.quiet 6 (.quiet 7 (.quiet 8 (.quiet 9 (.quiet 10 (.quiet 11 (.quiet 12 (.quiet 13 (.quiet 14 (.quiet 15 .done)))))))))))))))) (by kernel_rfl) (by kernel_rfl) (by intro c a w d v h; cases d <;> exact h) (fun ops HO => ?_)
    refine plan_read _ (hi_of HO rfl) rfl (fun w' hE => by (repeat (with_reducible replace hE := Ext.unD hE)); have hcE := hE.hc; clear hE; go_simp; rfl) ?_
    simp only [Act.put, List.setIfInBounds_toArray, List.set_cons_succ, List.set_cons_zero]
    refine plan_read _ (hi_of HO rfl) rfl (fun w' hE => by (repeat (with_reducible replace hE := Ext.unD hE)); have hcE := hE.hc; clear hE; go_simp; rfl) ?_
    simp only [Act.put, List.setIfInBounds_toArray, List.set_cons_succ, List.set_cons_zero]
    refine plan_read _ (hi_of HO rfl) rfl (fun w' hE => by (repeat (with_reducible replace hE := Ext.unD hE)); have hcE := hE.hc; clear hE; go_simp; rfl) ?_
    simp only [Act.put, List.setIfInBounds_toArray, List.set_cons_succ, List.set_cons_zero]
    refine plan_read _ (hi_of HO rfl) rfl (fun w' hE => by (repeat (with_reducible replace hE := Ext.unD hE)); have hcE := hE.hc; clear hE; go_simp; rfl) ?_
    simp only [Act.put, List.setIfInBounds_toArray, List.set_cons_succ, List.set_cons_zero]
    refine plan_read _ (hi_of HO rfl) rfl (fun w' hE => by (repeat (with_reducible replace hE := Ext.unD hE)); have hcE := hE.hc; clear hE; go_simp; rfl) ?_
    simp only [Act.put, List.setIfInBounds_toArray, List.set_cons_succ, List.set_cons_zero]
    refine plan_read _ (hi_of HO rfl) rfl (fun w' hE => by (repeat (with_reducible replace hE := Ext.unD hE)); have hcE := hE.hc; clear hE; go_simp; rfl) ?_
    simp only [Act.put, List.setIfInBounds_toArray, List.set_cons_succ, List.set_cons_zero]
    refine plan_pure _ en_TRank4 (hi_of HO rfl) rfl rfl (by go_simp; rfl) (fun w' hE => by exact (rankS lo (HS.out.ext (Ext.trans _ _ _ (by (repeat (first | exact Ext.refl _ | apply Ext.drew_left | apply Ext.drew | apply Ext.alloc))) hE)))) ?_
    simp only [Act.put, List.setIfInBounds_toArray, List.set_cons_succ, List.set_cons_zero]
    refine plan_read _ (hi_of HO rfl) rfl (fun w' hE => by (repeat (with_reducible replace hE := Ext.unD hE)); have hcE := hE.hc; clear hE; go_simp; rfl) ?_
    simp only [Act.put, List.setIfInBounds_toArray, List.set_cons_succ, List.set_cons_zero]
    refine plan_read _ (hi_of HO rfl) rfl (fun w' hE => by (repeat (with_reducible replace hE := Ext.unD hE)); have hcE := hE.hc; clear hE; go_simp; rfl) ?_
    simp only [Act.put, List.setIfInBounds_toArray, List.set_cons_succ, List.set_cons_zero]
    refine plan_read _ (hi_of HO rfl) rfl (fun w' hE => by (repeat (with_reducible replace hE := Ext.unD hE)); have hcE := hE.hc; clear hE; go_simp; rfl) ?_
    simp only [Act.put, List.setIfInBounds_toArray, List.set_cons_succ, List.set_cons_zero]
    refine plan_read _ (hi_of HO rfl) rfl (fun w' hE => by (repeat (with_reducible replace hE := Ext.unD hE)); have hcE := hE.hc; clear hE; go_simp; rfl) ?_
    simp only [Act.put, List.setIfInBounds_toArray, List.set_cons_succ, List.set_cons_zero]
    refine plan_read _ (hi_of HO rfl) rfl (fun w' hE => by (repeat (with_reducible replace hE := Ext.unD hE)); have hcE := hE.hc; clear hE; go_simp; rfl) ?_
    simp only [Act.put, List.setIfInBounds_toArray, List.set_cons_succ, List.set_cons_zero]
    refine plan_read _ (hi_of HO rfl) rfl (fun w' hE => by (repeat (with_reducible replace hE := Ext.unD hE)); have hcE := hE.hc; clear hE; go_simp; rfl) ?_
    simp only [Act.put, List.setIfInBounds_toArray, List.set_cons_succ, List.set_cons_zero]
    refine plan_pure _ en_TRank4 (hi_of HO rfl) rfl rfl (by go_simp; rfl) (fun w' hE => by exact (rankS hi (HS.out.ext (Ext.trans _ _ _ (by (repeat (first | exact Ext.refl _ | apply Ext.drew_left | apply Ext.drew | apply Ext.alloc))) hE)))) ?_
    simp only [Act.put, List.setIfInBounds_toArray, List.set_cons_succ, List.set_cons_zero]
    refine plan_read _ (hi_of HO rfl) rfl (fun w' hE => by (repeat (with_reducible replace hE := Ext.unD hE)); have hcE := hE.hc; clear hE; go_simp; rfl) ?_
    simp only [Act.put, List.setIfInBounds_toArray, List.set_cons_succ, List.set_cons_zero]
    refine plan_read _ (hi_of HO rfl) rfl (fun w' hE => by (repeat (with_reducible replace hE := Ext.unD hE)); have hcE := hE.hc; clear hE; go_simp; rfl) ?_
    simp only [Act.put, List.setIfInBounds_toArray, List.set_cons_succ, List.set_cons_zero]
    refine plan_done ?fin102
    go_wp2
    refine bodyPost_ret (v := .tuple #[.int .i64 ((cntE lo s.l : Nat) : Int), .int .i64 ((cntE hi s.l : Nat) : Int)]) (by unfold results; rw [Tryd.results67]; go_simp; first | done | rfl) rfl ⟨by simp [hiE], by (repeat (first | exact Ext.refl _ | apply Ext.drew_left | apply Ext.drew | apply Ext.alloc))⟩
/-- The tally of a row of entries; joins are counted. -/
theorem foldS (i j : Nat) (h : StW w sb mb tb n s) (hi : i ≤ 4611686018427387904) (hj : j ≤ s.l.length) : Calls Tryd.prog 66 #[.pointer (some ⟨tb, 0, none⟩), .int .i64 (i : Int), .int .i64 (j : Int)] w fun r w' =>
    r = .returned (encS4 (talL (sl s.l i j))) ∧ Xl [mb] w w' ∧ ∃ n', StW w' sb mb tb n' s ∧ Cost s.l.length n n' := by
  obtain ⟨pv, T, t1, t2, t3, t4⟩ := h.t
  have hsz := te_size t3
  have hln := h.len
  refine (fold4_any (joinM mb) (n := n) (i : Int) (j : Int) (by omega) (by omega) t1.at_ (by simpa using h.mt) t2 h.m (by omega) (by rw [wtE]; exact Nat.le_refl _)).mono ?_
  rintro r w' ⟨rfl, hx, hk⟩
  rw [te_fold t3 h.len i j hj]
  have hxl : Xl [mb] w w' := Xl.ofXt hx (by intro s hs; cases hs; simp)
  have hq : ∀ b, b ∈ [mb] → NoNode w b := fun b hb => by rw [List.mem_singleton.1 hb]; exact h.noM
  have hp := Tr.pieces_cost (J := J4) (z := (0, 0, 0)) T (max (i : Int) 0) (min (j : Int) T.size)
  refine ⟨rfl, hxl, _, ⟨(hxl.block sb h.lt (by simpa using h.sm)).trans h.b, hk, ⟨pv, T, t1.xl hxl (by simpa using h.mt.symm), t2.awayL hq hxl, t3, t4⟩, h.sm, h.st, h.mt, h.srt, h.len⟩, ⟨by omega, T.high, te_cost t3 t4, by omega⟩⟩
/-- Blocks that were not there count for nothing. -/
theorem xl_off {L M : List Nat} {w X Y : World} (h : Xl L w X) (k : Xl M X Y) (hM : ∀ b, b ∈ M → w.heap.size ≤ b) : Xl L w Y :=
  ⟨k.os.trans h.os, k.tape.trans h.tape, k.output.trans h.output, Nat.le_trans h.size k.size, fun b hb hn => (k.block b (Nat.lt_of_lt_of_le hb h.size) (fun e => by have := hM b e; omega)).trans (h.block b hb hn)⟩
theorem noTl {w : World} {b : Nat} {x : S4} (h : TlB4 w b x) : NoNode w b := fun k v s sm pl pr n' h' q => by have h1 := q.c4; simp [World.cell?, h.b] at h1
theorem noEn {w : World} {b : Nat} {x : V4} (h : EnB4 w b x) : NoNode w b := fun k v s sm pl pr n' h' q => by have h1 := q.c5; simp [World.cell?, h.b] at h1
/-- What Fold hands back. -/
def fdT (lo hi : ByteArray) (op : Bool) (l : List Ent) : Tal3 := if rngCheck lo hi op = 0 then talL (sl l (cntE lo l) (hiE hi op l)) else (0, 0, 0)
theorem stFold_any (lo hi : ByteArray) (op : Bool) (h : StW w sb mb tb n s) : Calls Tryd.prog 29 #[.pointer (some ⟨sb, 0, none⟩), .agg #[.string lo, .string hi, .bool op]] w fun e w' =>
    e = .returned (.tuple #[encS4 (fdT lo hi op s.l), .int .i64 (rngCheck lo hi op)]) ∧ Xl [mb] w w' ∧ ∃ n', StW w' sb mb tb n' s ∧ Cost s.l.length n n' := by
  have HS := hid_mk h
  have HS0 := hid_mk h
  obtain ⟨r, hr⟩ : ∃ r, rngCheck lo hi op = r := ⟨_, rfl⟩
  have HR := hid_mk hr
  unfold fdT
  rw [hr]
  clear h hr
  by_cases hz : r = 0
  · subst hz
    rw [if_pos rfl]
    go_enter Tryd.func29, Tryd.ntmps29
    go_wp2_with fail
    refine gen_callsT (fun W => TlB4 W (w.heap.size + 1) (0, 0, 0) ∧ W.heap[w.heap.size]? = some (.cells #[.string lo, .string hi, .bool op] 24 (0, 0)) ∧ Ext w W) ⟨⟨?_⟩, ?_, by (repeat (first | exact Ext.refl _ | apply Ext.drew_left | apply Ext.drew | apply Ext.alloc))⟩ ?_
    · have h := heap_alloc_new (w.alloc (.cells #[.string lo, .string hi, .bool op] 24)) (.cells #[.int .i64 0, .int .u64 0, .int .u64 0] 32)
      rw [World.size_alloc] at h
      exact h
    · exact (Below.heap_alloc _ _ _ (by simp)).trans (heap_alloc_new w (.cells #[.string lo, .string hi, .bool op] 24))
    rintro W ⟨hb, hq, hxW⟩
    refine (sCheck_any lo hi op W).mono ?_
    rintro e W1 ⟨rfl, hx1⟩
    rw [HR.out]
    have HB := hid_mk (hb.ext hx1)
    have HX := hid_mk (Ext.trans _ _ _ hxW hx1)
    have hq1 := (hx1.below.block _ (Array.getElem?_eq_some_iff.1 hq).1).trans hq
    have q0 : W1.cell? ⟨w.heap.size, 0, none⟩ = some (.string lo) := by simp [World.cell?, hq1]
    have q1 : W1.cell? ⟨w.heap.size, 1, none⟩ = some (.string hi) := by simp [World.cell?, hq1]
    have q2 : W1.cell? ⟨w.heap.size, 2, none⟩ = some (.bool op) := by simp [World.cell?, hq1]
    have ql := cell_lt q0
    replace HS := hid_mk (HS.out.ext HX.out)
    have c3 := HS.out.c3
    have hsl := HS.out.lt
    have s0 := HB.out.c0
    have s1 := HB.out.c1
    have s2 := HB.out.c2
    have f0 : W1.frozen? ⟨w.heap.size + 1, 0, none⟩ = false := by simp [World.frozen?, HB.out.b]
    have f1 : W1.frozen? ⟨w.heap.size + 1, 1, none⟩ = false := by simp [World.frozen?, HB.out.b]
    have f2 : W1.frozen? ⟨w.heap.size + 1, 2, none⟩ = false := by simp [World.frozen?, HB.out.b]
    have sl' := HB.out.lt
    clear hb hq hxW hx1 hq1
    go_wp2_with fail
    have hx9 := Ext.refl W1
    have hc9 := hx9.hc; have hl9 := hx9.hl; have he9 := hx9.hle; have hn9 := hx9.hne; replace hx9 := hid_mk hx9
    refine wp_region_held_planC Ext (fun i => i != 9 && i != 10) (fun i => [0, 1, 2, 4, 7, 8, 11].contains i) (.quiet 0 (.quiet 1 (.quiet 2 (.quiet 3 (.quiet 4 (.alt 5 (.alt 6 (.quiet 7 (.quiet 8 (.alt 9 (.alt 10 (.quiet 11 .done) .stop) .stop))) .stop) .stop)))))) (by kernel_rfl) (by kernel_rfl) Ext.refl Ext.trans (by intro c a w d v h; cases d <;> exact h) (fun ops HO => ?_)
    refine planC_calm _ (hi_of HO rfl) rfl (fun w' => by go_simp; rfl) ?_
    simp only [Act.put, List.setIfInBounds_toArray, List.set_cons_succ, List.set_cons_zero]
    refine planC_calm _ (hi_of HO rfl) rfl (fun w' => by go_simp; rfl) ?_
    simp only [Act.put, List.setIfInBounds_toArray, List.set_cons_succ, List.set_cons_zero]
    refine planC_calm _ (hi_of HO rfl) rfl (fun w' => by go_simp; rfl) ?_
    simp only [Act.put, List.setIfInBounds_toArray, List.set_cons_succ, List.set_cons_zero]
    refine planC_read _ (hi_of HO rfl) rfl rfl (fun w' hE => by have hcE := (Ext.trans _ _ _ (by (repeat (first | exact hx9.out | apply Ext.drew | apply Ext.alloc))) hE).hc; (repeat (with_reducible replace hE := Ext.unD hE)); have hcF := hE.hc; clear hE; go_simp; rfl) ?_
    simp only [Act.put, List.setIfInBounds_toArray, List.set_cons_succ, List.set_cons_zero]
    refine planC_calm _ (hi_of HO rfl) rfl (fun w' => by go_simp; rfl) ?_
    simp only [Act.put, List.setIfInBounds_toArray, List.set_cons_succ, List.set_cons_zero]
    refine planC_loud1 (hi_of HO rfl) rfl ?_
    go_simp
    refine ⟨by (repeat (first | exact Ext.refl _ | apply Ext.drew_left | apply Ext.drew | apply Ext.alloc)), ?_⟩
    refine planC_call1 en_stRank0 (hi_of HO rfl) rfl rfl (by go_simp; rfl) (by exact (stRank_any lo hi op (HS.out.ext (by (repeat (first | exact Ext.refl _ | apply Ext.drew_left | apply Ext.drew | apply Ext.alloc)))))) ?_
    rintro e v103 ⟨rfl, hx103⟩
    refine ⟨_, rfl, fun _ => hx103, ?_⟩
    have hy103 := hid_mk (by first | (with_reducible exact Ext.unD hx103) | exact hx103 : Ext _ v103)
    replace hx103 := Ext.trans _ _ _ (by (repeat (first | exact hx9.out | apply Ext.drew | apply Ext.alloc))) hx103
    clear hc9 hl9 he9 hn9
    have hc103 := hx103.hc; have hl103 := hx103.hl; have he103 := hx103.hle; have hn103 := hx103.hne; replace hx103 := hid_mk hx103
    simp only [Act.put, List.setIfInBounds_toArray, List.set_cons_succ, List.set_cons_zero]
    have HV := hid_mk hx103.out
    refine planC_calm _ (hi_of HO rfl) rfl (fun w' => by go_simp; rfl) ?_
    simp only [Act.put, List.setIfInBounds_toArray, List.set_cons_succ, List.set_cons_zero]
    refine planC_calm _ (hi_of HO rfl) rfl (fun w' => by go_simp; rfl) ?_
    simp only [Act.put, List.setIfInBounds_toArray, List.set_cons_succ, List.set_cons_zero]
    refine planC_call1 en_TFold4 (hi_of HO rfl) rfl rfl (by go_simp; rfl) (by exact foldS _ _ (HS.out.ext HV.out) (by have := cntE_le lo s.l; have := HS.out.len; omega) (hiE_le _ _ _)) ?_
    rintro r v9 ⟨rfl, hx, n9, hs, hc⟩
    refine ⟨_, rfl, fun hh => by simp at hh, ?_⟩
    have HX9 := hid_mk (Xl.trans _ _ _ (Xl.of (Ext.trans _ _ _ HX.out HV.out) : Xl [mb] w _) hx)
    have HS9 := hid_mk hs
    have HC9 := hid_mk hc
    have HB9 := hid_mk ((HB.out.ext HV.out).xt hx.xt1 (by intro e; cases e; have := HS0.out.mlt; omega))
    simp only [Act.put, List.setIfInBounds_toArray, List.set_cons_succ, List.set_cons_zero]
    clear s0 s1 s2 f0 f1 f2 sl' q0 q1 q2 ql c3 hsl hx hs hc
    generalize htt : talL (sl s.l (cntE lo s.l) (hiE hi op s.l)) = tt
    have HTT := hid_mk htt
    clear htt
    have s0 := HB9.out.c0
    have s1 := HB9.out.c1
    have s2 := HB9.out.c2
    have f0 : v9.frozen? ⟨w.heap.size + 1, 0, none⟩ = false := by simp [World.frozen?, HB9.out.b]
    have f1 : v9.frozen? ⟨w.heap.size + 1, 1, none⟩ = false := by simp [World.frozen?, HB9.out.b]
    have f2 : v9.frozen? ⟨w.heap.size + 1, 2, none⟩ = false := by simp [World.frozen?, HB9.out.b]
    have sl' := HB9.out.lt
    refine planC_loud1 (hi_of HO rfl) rfl ?_
    go_simp
    refine planC_calm _ (hi_of HO rfl) rfl (fun w' => by go_simp; rfl) ?_
    simp only [Act.put, List.setIfInBounds_toArray, List.set_cons_succ, List.set_cons_zero]
    refine planC_done ?fin104
    go_wp2
    refine bodyPost_ret (v := .tuple #[encS4 tt, .int .i64 0]) (by unfold results; rw [Tryd.results29]; go_simp; first | done | rfl) rfl ⟨by rw [HTT.out], ?_⟩
    have hn9 : w.heap.size + 1 ≠ mb := by have := HS0.out.mlt; omega
    have hX9 : Xl [w.heap.size + 1] v9 (((v9.setCell ⟨w.heap.size + 1, 0, none⟩ (.int .i64 tt.1)).setCell ⟨w.heap.size + 1, 1, none⟩ (.int .u64 tt.2.1)).setCell ⟨w.heap.size + 1, 2, none⟩ (.int .u64 tt.2.2)) := by (repeat (first | with_reducible exact Xl.refl _ | with_reducible apply Xl.alloc | with_reducible apply Xl.drew | with_reducible apply Xl.set | (focus (simp; done))))
    exact ⟨xl_off HX9.out hX9 (by simp), n9, HS9.out.away hX9 (by have := HS0.out.lt; simp; omega) (by simpa using hn9.symm) (by have := HS0.out.tlt; simp; omega) (by intro b hb; rw [List.mem_singleton.1 hb]; exact noTl HB9.out), HC9.out⟩
  · rw [if_neg hz]
    go_enter Tryd.func29, Tryd.ntmps29
    go_wp2_with fail
    refine gen_callsT (fun W => TlB4 W (w.heap.size + 1) (0, 0, 0) ∧ W.heap[w.heap.size]? = some (.cells #[.string lo, .string hi, .bool op] 24 (0, 0)) ∧ Ext w W) ⟨⟨?_⟩, ?_, by (repeat (first | exact Ext.refl _ | apply Ext.drew_left | apply Ext.drew | apply Ext.alloc))⟩ ?_
    · have h := heap_alloc_new (w.alloc (.cells #[.string lo, .string hi, .bool op] 24)) (.cells #[.int .i64 0, .int .u64 0, .int .u64 0] 32)
      rw [World.size_alloc] at h
      exact h
    · exact (Below.heap_alloc _ _ _ (by simp)).trans (heap_alloc_new w (.cells #[.string lo, .string hi, .bool op] 24))
    rintro W ⟨hb, hq, hxW⟩
    refine (sCheck_any lo hi op W).mono ?_
    rintro e W1 ⟨rfl, hx1⟩
    rw [HR.out]
    have HB := hid_mk (hb.ext hx1)
    have HX := hid_mk (Ext.trans _ _ _ hxW hx1)
    have hq1 := (hx1.below.block _ (Array.getElem?_eq_some_iff.1 hq).1).trans hq
    have q0 : W1.cell? ⟨w.heap.size, 0, none⟩ = some (.string lo) := by simp [World.cell?, hq1]
    have q1 : W1.cell? ⟨w.heap.size, 1, none⟩ = some (.string hi) := by simp [World.cell?, hq1]
    have q2 : W1.cell? ⟨w.heap.size, 2, none⟩ = some (.bool op) := by simp [World.cell?, hq1]
    have ql := cell_lt q0
    replace HS := hid_mk (HS.out.ext HX.out)
    have c3 := HS.out.c3
    have hsl := HS.out.lt
    have s0 := HB.out.c0
    have s1 := HB.out.c1
    have s2 := HB.out.c2
    have f0 : W1.frozen? ⟨w.heap.size + 1, 0, none⟩ = false := by simp [World.frozen?, HB.out.b]
    have f1 : W1.frozen? ⟨w.heap.size + 1, 1, none⟩ = false := by simp [World.frozen?, HB.out.b]
    have f2 : W1.frozen? ⟨w.heap.size + 1, 2, none⟩ = false := by simp [World.frozen?, HB.out.b]
    have sl' := HB.out.lt
    clear hb hq hxW hx1 hq1
    go_wp2
    refine bodyPost_ret (v := .tuple #[encS4 (0, 0, 0), .int .i64 r]) (by unfold results; rw [Tryd.results29]; go_simp; first | done | rfl) rfl ⟨rfl, ?_⟩
    have hX : Ext w (((W1.setCell ⟨w.heap.size + 1, 0, none⟩ (.int .i64 0)).setCell ⟨w.heap.size + 1, 1, none⟩ (.int .u64 0)).setCell ⟨w.heap.size + 1, 2, none⟩ (.int .u64 0)) := Xl.ext HX.out (L := [w.heap.size + 1]) (by (repeat (first | with_reducible exact Xl.refl _ | with_reducible apply Xl.alloc | with_reducible apply Xl.drew | with_reducible apply Xl.set | (focus (simp; done))))) (by simp)
    exact ⟨Xl.of hX, n, HS0.out.ext hX, Cost.zero _ _⟩
end
end Go.Proofs.YtokcgnbjkbhmiaaDoor
namespace Go.Proofs.YtokcgnbjkbhmiaaDoor
open Go.RowKit Go.Lib
set_option maxHeartbeats 4000000
set_option maxRecDepth 100000
set_option linter.unusedSimpArgs false
set_option linter.unusedVariables false

section
variable {w : World} {sb mb tb n : Nat} {s : St}
theorem xl_hcL {L : List Nat} {W w' : World} (hE : Xl L W w') {b : Nat} (hb : b < W.heap.size) (h : b ∉ L) : ∀ o, w'.cell? ⟨b, o, none⟩ = W.cell? ⟨b, o, none⟩ := fun o => hE.cell hb h
theorem stLay_any (e : Ent) (h : StW w sb mb tb n s) (hr : roomE e.key s.l = true) (hl : LanesAt w) : Calls Tryd.prog 65 #[.pointer (some ⟨sb, 0, none⟩), entV e] w fun r w' =>
    (∃ v, r = .returned v) ∧ Xl [sb, mb, tb] w w' ∧ ∃ n', StW w' sb mb tb n' (layS s e) ∧ Cost s.l.length n n' := by
  have HS0 := hid_mk h
  have HL := hid_mk hl
  have HR := hid_mk hr
  clear h hl hr
  go_enter Tryd.func65, Tryd.ntmps65
  go_wp2_with fail
  refine gen_code (fun W => EnB4 W w.heap.size e ∧ Ext w W) ⟨EnB4.new w e, by (repeat (first | exact Ext.refl _ | apply Ext.drew_left | apply Ext.drew | apply Ext.alloc))⟩ ?_
  rintro W ⟨hb, hxW⟩
  have HB := hid_mk hb
  have HX := hid_mk hxW
  have HS := hid_mk (HS0.out.ext hxW)
  have c3 := HS.out.c3
  have hsl := HS.out.lt
  have a0 := HB.out.c0
  have a1 := HB.out.c1
  have a2 := HB.out.c2
  have a3 := HB.out.c3
  have a4 := HB.out.c4
  have f0 := HB.out.f 0
  have f1 := HB.out.f 1
  have f2 := HB.out.f 2
  have f3 := HB.out.f 3
  have f4 := HB.out.f 4
  have al := HB.out.lt
  clear hb hxW
  obtain ⟨L, hL⟩ : ∃ L, [tb, mb] = L := ⟨_, rfl⟩
  have HLE := hid_mk hL
  have hnS : sb ∉ L := by rw [← hL]; have := HS.out.sm; have := HS.out.st; simp; omega
  have hnE : w.heap.size ∉ L := by rw [← hL]; have := HS0.out.mlt; have := HS0.out.tlt; simp; omega
  have HNS := hid_mk hnS
  have HNE := hid_mk hnE
  clear hL
  refine wp_region_held_plan (Xl L) (fun _ => true) (.quiet 0 (.quiet 1 (.quiet 2 (.quiet 3 (.quiet 4 (.quiet 5 (.quiet 6 (.quiet 7 (.alt 8 (.alt 9 .done .stop) .stop))))))))) (by kernel_rfl) (by kernel_rfl) Xl.refl Xl.trans (by intro c a w d v h; cases d <;> exact h) (fun ops HO => ?_)
  refine plan_read _ (hi_of HO rfl) rfl (fun w' hE => by (repeat (with_reducible replace hE := Ext.unD hE)); have hcE := hE.hc; clear hE; go_simp; rfl) ?_
  simp only [Act.put, List.setIfInBounds_toArray, List.set_cons_succ, List.set_cons_zero]
  refine plan_read _ (hi_of HO rfl) rfl (fun w' hE => by (repeat (with_reducible replace hE := Ext.unD hE)); have hcE := hE.hc; clear hE; go_simp; rfl) ?_
  simp only [Act.put, List.setIfInBounds_toArray, List.set_cons_succ, List.set_cons_zero]
  refine plan_read _ (hi_of HO rfl) rfl (fun w' hE => by (repeat (with_reducible replace hE := Ext.unD hE)); have hcE := hE.hc; clear hE; go_simp; rfl) ?_
  simp only [Act.put, List.setIfInBounds_toArray, List.set_cons_succ, List.set_cons_zero]
  refine plan_read _ (hi_of HO rfl) rfl (fun w' hE => by have hcP := xl_hcL hE hsl hnS; clear hE; go_simp; rfl) ?_
  simp only [Act.put, List.setIfInBounds_toArray, List.set_cons_succ, List.set_cons_zero]
  refine plan_read _ (hi_of HO rfl) rfl (fun w' hE => by (repeat (with_reducible replace hE := Ext.unD hE)); have hcE := hE.hc; clear hE; go_simp; rfl) ?_
  simp only [Act.put, List.setIfInBounds_toArray, List.set_cons_succ, List.set_cons_zero]
  refine plan_read _ (hi_of HO rfl) rfl (fun w' hE => by have hcP := xl_hcL hE al hnE; clear hE; go_simp; rfl) ?_
  simp only [Act.put, List.setIfInBounds_toArray, List.set_cons_succ, List.set_cons_zero]
  refine plan_read _ (hi_of HO rfl) rfl (fun w' hE => by have hcP := xl_hcL hE al hnE; clear hE; go_simp; rfl) ?_
  simp only [Act.put, List.setIfInBounds_toArray, List.set_cons_succ, List.set_cons_zero]
  refine plan_read _ (hi_of HO rfl) rfl (fun w' hE => by have hcP := xl_hcL hE al hnE; clear hE; go_simp; rfl) ?_
  simp only [Act.put, List.setIfInBounds_toArray, List.set_cons_succ, List.set_cons_zero]
  refine plan_call1 en_tlOf (hi_of HO rfl) rfl rfl (by go_simp; rfl) (by exact tlOf_any e (HL.out.ext (Ext.trans _ _ _ HX.out (by (repeat (first | exact Ext.refl _ | apply Ext.drew_left | apply Ext.drew | apply Ext.alloc)))))) ?_
  rintro r v8 ⟨rfl, hx⟩
  refine ⟨_, rfl, fun _ => Xl.of hx, ?_⟩
  have HV := hid_mk (Ext.unD hx)
  simp only [Act.put, List.setIfInBounds_toArray, List.set_cons_succ, List.set_cons_zero]
  clear hx
  refine plan_call1 en_TPut4 (hi_of HO rfl) rfl rfl (by go_simp; rfl) (by exact putS e (HS.out.ext HV.out) HR.out) ?_
  rintro r v9 ⟨rfl, hx, n9, hs, hc⟩
  rw [HLE.out] at hx
  refine ⟨_, rfl, fun _ => hx, ?_⟩
  have HX9 := hid_mk (Xl.trans _ _ _ (Xl.of (Ext.trans _ _ _ HX.out HV.out) : Xl L w _) hx)
  have HS9 := hid_mk hs
  have HC9 := hid_mk hc
  have HB9 := hid_mk (show EnB4 v9 w.heap.size e from ⟨(hx.block _ (HB.out.ext HV.out).lt HNE.out).trans (HB.out.ext HV.out).b⟩)
  simp only [Act.put, List.setIfInBounds_toArray, List.set_cons_succ, List.set_cons_zero]
  clear c3 hsl hx hs hc a0 a1 a2 a3 a4 f0 f1 f2 f3 f4 al hnS hnE
  have a0 := HB9.out.c0
  have a1 := HB9.out.c1
  have a2 := HB9.out.c2
  have a3 := HB9.out.c3
  have a4 := HB9.out.c4
  have f0 := HB9.out.f 0
  have f1 := HB9.out.f 1
  have f2 := HB9.out.f 2
  have f3 := HB9.out.f 3
  have f4 := HB9.out.f 4
  have al := HB9.out.lt
  have c1 := HS9.out.c1
  have k1 := HS9.out.f 1
  have hsl := HS9.out.lt
  refine plan_done ?fin101
  go_wp2_with fail
  refine wp_region_held_planC Ext (fun i => i != 11) (fun i => [0, 1, 2, 3, 5, 6, 9, 10].contains i) (.quiet 0 (.quiet 1 (.quiet 2 (.quiet 3 (.quiet 4 (.quiet 5 (.quiet 6 (.quiet 7 (.quiet 8 (.quiet 9 (.quiet 10 (.alt 11 .done .stop)))))))))))) (by kernel_rfl) (by kernel_rfl) Ext.refl Ext.trans (by intro c a w d v h; cases d <;> exact h) (fun ops HO => ?_)
  refine planC_calm _ (hi_of HO rfl) rfl (fun w' => by go_simp; rfl) ?_
  simp only [Act.put, List.setIfInBounds_toArray, List.set_cons_succ, List.set_cons_zero]
  refine planC_calm _ (hi_of HO rfl) rfl (fun w' => by go_simp; rfl) ?_
  simp only [Act.put, List.setIfInBounds_toArray, List.set_cons_succ, List.set_cons_zero]
  refine planC_calm _ (hi_of HO rfl) rfl (fun w' => by go_simp; rfl) ?_
  simp only [Act.put, List.setIfInBounds_toArray, List.set_cons_succ, List.set_cons_zero]
  refine planC_calm _ (hi_of HO rfl) rfl (fun w' => by go_simp; rfl) ?_
  simp only [Act.put, List.setIfInBounds_toArray, List.set_cons_succ, List.set_cons_zero]
  refine planC_read _ (hi_of HO rfl) rfl rfl (fun w' hE => by (repeat (with_reducible replace hE := Ext.unD hE)); have hcE := hE.hc; clear hE; go_simp; rfl) ?_
  simp only [Act.put, List.setIfInBounds_toArray, List.set_cons_succ, List.set_cons_zero]
  refine planC_calm _ (hi_of HO rfl) rfl (fun w' => by go_simp; rfl) ?_
  simp only [Act.put, List.setIfInBounds_toArray, List.set_cons_succ, List.set_cons_zero]
  refine planC_calm _ (hi_of HO rfl) rfl (fun w' => by go_simp; rfl) ?_
  simp only [Act.put, List.setIfInBounds_toArray, List.set_cons_succ, List.set_cons_zero]
  refine planC_read _ (hi_of HO rfl) rfl rfl (fun w' hE => by (repeat (with_reducible replace hE := Ext.unD hE)); have hcE := hE.hc; clear hE; go_simp; rfl) ?_
  simp only [Act.put, List.setIfInBounds_toArray, List.set_cons_succ, List.set_cons_zero]
  refine planC_read _ (hi_of HO rfl) rfl rfl (fun w' hE => by (repeat (with_reducible replace hE := Ext.unD hE)); have hcE := hE.hc; clear hE; go_simp; rfl) ?_
  simp only [Act.put, List.setIfInBounds_toArray, List.set_cons_succ, List.set_cons_zero]
  refine planC_calm _ (hi_of HO rfl) rfl (fun w' => by go_simp; rfl) ?_
  simp only [Act.put, List.setIfInBounds_toArray, List.set_cons_succ, List.set_cons_zero]
  refine planC_calm _ (hi_of HO rfl) rfl (fun w' => by go_simp; rfl) ?_
  simp only [Act.put, List.setIfInBounds_toArray, List.set_cons_succ, List.set_cons_zero]
  refine planC_loud1 (hi_of HO rfl) rfl ?_
  go_simp
  skip
  refine planC_done ?fin102
  go_wp2
  have HX9' := hid_mk ((HLE.out ▸ HX9.out : Xl [tb, mb] w v9).more (M := [sb, mb, tb]) (by intro k hk; simp at hk ⊢; omega))
  refine bodyPost_end (results_none rfl _ _ _) rfl ⟨⟨_, rfl⟩, (HX9'.out.set (by simp)).drew, n9, (HS9.out.clock (max s.time e.ctr)).ext ((Ext.refl _).drew), HC9.out⟩
end
end Go.Proofs.YtokcgnbjkbhmiaaDoor
namespace Go.Proofs.YtokcgnbjkbhmiaaDoor
open Go.RowKit Go.Lib
set_option maxHeartbeats 4000000
set_option maxRecDepth 100000
set_option linter.unusedSimpArgs false
set_option linter.unusedVariables false
theorem en_stTake : Enters Tryd.prog 27 := ⟨_, Tryd.func27, by kernel_rfl, rfl⟩
/-- What a store does behind a call that leaves it a store: some blocks of its own are changed. -/
def StPost (w : World) (sb mb tb n : Nat) (s s' : St) (w' : World) : Prop := Xl [sb, mb, tb] w w' ∧ ∃ n', StW w' sb mb tb n' s' ∧ Cost s.l.length n n'
theorem StPost.still {w w' : World} {sb mb tb n : Nat} {s : St} (h : StW w sb mb tb n s) (hx : Ext w w') : StPost w sb mb tb n s s w' := ⟨Xl.of hx, n, h.ext hx, Cost.zero _ _⟩
theorem StPost.from {w0 w w' : World} {sb mb tb n : Nat} {s s' : St} (hx : Ext w0 w) (h : StPost w sb mb tb n s s' w') : StPost w0 sb mb tb n s s' w' := ⟨Xl.trans _ _ _ (Xl.of hx) h.1, h.2⟩
theorem StPost.to {w w' w2 : World} {sb mb tb n : Nat} {s s' : St} (h : StPost w sb mb tb n s s' w') (hx : Ext w' w2) : StPost w sb mb tb n s s' w2 := by
  obtain ⟨h1, n', h2, h3⟩ := h
  exact ⟨Xl.trans _ _ _ h1 (Xl.of hx), n', h2.ext hx, h3⟩
theorem EnB4.setAll {w : World} {b : Nat} {x y : V4} (h : EnB4 w b y) : EnB4 (((((w.setCell ⟨b, 0, none⟩ (.string x.key)).setCell ⟨b, 1, none⟩ (.int .i64 x.ctr)).setCell ⟨b, 2, none⟩ (.int .i64 x.node)).setCell ⟨b, 3, none⟩ (.string x.val)).setCell ⟨b, 4, none⟩ (.bool x.dead)) b x :=
  ⟨by rw [heap_setCell_same _ _ _ _ _ _ (heap_setCell_same _ _ _ _ _ _ (heap_setCell_same _ _ _ _ _ _ (heap_setCell_same _ _ _ _ _ _ (heap_setCell_same _ _ _ _ _ _ h.b))))]; rfl⟩
section
variable {w : World} {sb mb tb n : Nat} {s : St}
theorem stTake_any (e : Ent) (h : StW w sb mb tb n s) (hl : LanesAt w) : Calls Tryd.prog 27 #[.pointer (some ⟨sb, 0, none⟩), entV e] w fun r w' =>
    r = .returned (.tuple #[.bool (tkB s e), .int .i64 (tkE s e)]) ∧ StPost w sb mb tb n s (tkS s e) w' := by
  have HS0 := hid_mk h
  have HL := hid_mk hl
  obtain ⟨c, hc⟩ : ∃ c, eChk e = c := ⟨_, rfl⟩
  have HC := hid_mk hc
  clear h hl hc
  go_enter Tryd.func27, Tryd.ntmps27
  go_wp2_with fail
  refine gen_callsT (fun W => EnB4 W w.heap.size e ∧ Ext w W) ⟨EnB4.new w e, by (repeat (first | exact Ext.refl _ | apply Ext.drew_left | apply Ext.drew | apply Ext.alloc))⟩ ?_
  rintro W ⟨hb, hxW⟩
  refine (iCheck_any e.key e.ctr e.node e.val e.dead W).mono ?_
  rintro r W1 ⟨rfl, hx1⟩
  rw [show entCheck e.key e.ctr e.node e.val e.dead = c from HC.out]
  replace hb := hb.ext hx1
  replace hxW := Ext.trans _ _ _ hxW hx1
  obtain ⟨xb, hxb⟩ : ∃ xb, w.heap.size = xb := ⟨_, rfl⟩
  have HXB := hid_mk hxb
  rw [hxb] at hb
  simp only [hxb]
  clear hxb
  have HB := hid_mk hb
  have HX := hid_mk hxW
  have HS := hid_mk (HS0.out.ext hxW)
  clear hb hx1 hxW
  by_cases hz : c = 0
  · subst hz
    have a0 := HB.out.c0
    have a1 := HB.out.c1
    have a2 := HB.out.c2
    have a3 := HB.out.c3
    have a4 := HB.out.c4
    have f0 := HB.out.f 0
    have f1 := HB.out.f 1
    have f2 := HB.out.f 2
    have f3 := HB.out.f 3
    have f4 := HB.out.f 4
    have al := HB.out.lt
    go_wp2_with fail
    refine (stFull_any e.key HS.out).mono ?_
    rintro r W2 ⟨rfl, hx2⟩
    replace HX := hid_mk (Ext.trans _ _ _ HX.out hx2)
    replace HS := hid_mk (HS.out.ext hx2)
    replace HB := hid_mk (HB.out.ext hx2)
    clear a0 a1 a2 a3 a4 f0 f1 f2 f3 f4 al hx2
    cases hr : roomE e.key s.l with
    | false =>
      have ht0 : tkE s e = 80 := by unfold tkE; rw [if_neg (by rw [HC.out]; simp), if_pos hr]
      have htb : tkB s e = false := by unfold tkB; rw [ht0]; rfl
      go_wp2
      refine bodyPost_ret (v := .tuple #[.bool false, .int .i64 80]) (by unfold results; rw [Tryd.results27]; go_simp; first | done | rfl) rfl ⟨by rw [htb, ht0], ?_⟩
      rw [tkS, if_neg (by rw [htb]; simp)]
      exact StPost.still HS0.out HX.out
    | true =>
      have HR := hid_mk hr
      have HT0 := hid_mk (show tkE s e = 0 by unfold tkE; rw [if_neg (by rw [HC.out]; simp), if_neg (by rw [hr]; simp)])
      clear hr
      obtain ⟨mv, hmv⟩ : ∃ mv, (fndE e.key s.l).getD zV4 = mv := ⟨_, rfl⟩
      obtain ⟨ms, hms⟩ : ∃ ms, (fndE e.key s.l).isSome = ms := ⟨_, rfl⟩
      have HM := hid_mk (And.intro hmv hms)
      clear hmv hms
      have a0 := HB.out.c0
      have a1 := HB.out.c1
      have a2 := HB.out.c2
      have a3 := HB.out.c3
      have a4 := HB.out.c4
      have f0 := HB.out.f 0
      have f1 := HB.out.f 1
      have f2 := HB.out.f 2
      have f3 := HB.out.f 3
      have f4 := HB.out.f 4
      have al := HB.out.lt
      have c3 := HS.out.c3
      have hsl := HS.out.lt
      have HG := hid_mk (fun (V : World) (hx : Ext W2 V) => (show Calls Tryd.prog 63 #[.pointer (some ⟨tb, 0, none⟩), .string e.key] V (fun r w' => r = .returned (.tuple #[encV4 mv, .bool ms]) ∧ Ext V w') by rw [← HM.out.1, ← HM.out.2]; exact getS e.key (HS.out.ext hx)))
      go_wp2_with fail
      have hx9 := Ext.refl W2
      have hc9 := hx9.hc; have hl9 := hx9.hl; have he9 := hx9.hle; have hn9 := hx9.hne; replace hx9 := hid_mk hx9
      refine wp_region_held_planC Ext (fun i => i != 11) (fun i => [0, 1, 2, 4, 7, 8, 9, 12].contains i) (.quiet 0 (.quiet 1 (.quiet 2 (.quiet 3 (.quiet 4 (.quiet 5 (.alt 6 (.quiet 7 (.quiet 8 (.quiet 9 (.alt 10 (.alt 11 (.quiet 12 .done) .stop) .stop)))) (.alt 10 (.alt 6 (.quiet 7 (.quiet 8 (.quiet 9 (.alt 11 (.quiet 12 .done) .stop)))) .stop) .stop)))))))) (by kernel_rfl) (by kernel_rfl) Ext.refl Ext.trans (by intro c a w d v h; cases d <;> exact h) (fun ops HO => ?_)
      refine planC_calm _ (hi_of HO rfl) rfl (fun w' => by go_simp; rfl) ?_
      simp only [Act.put, List.setIfInBounds_toArray, List.set_cons_succ, List.set_cons_zero]
      refine planC_calm _ (hi_of HO rfl) rfl (fun w' => by go_simp; rfl) ?_
      simp only [Act.put, List.setIfInBounds_toArray, List.set_cons_succ, List.set_cons_zero]
      refine planC_calm _ (hi_of HO rfl) rfl (fun w' => by go_simp; rfl) ?_
      simp only [Act.put, List.setIfInBounds_toArray, List.set_cons_succ, List.set_cons_zero]
      refine planC_read _ (hi_of HO rfl) rfl rfl (fun w' hE => by have hcE := (Ext.trans _ _ _ (by (repeat (first | exact hx9.out | apply Ext.drew | apply Ext.alloc))) hE).hc; (repeat (with_reducible replace hE := Ext.unD hE)); have hcF := hE.hc; clear hE; go_simp; rfl) ?_
      simp only [Act.put, List.setIfInBounds_toArray, List.set_cons_succ, List.set_cons_zero]
      refine planC_calm _ (hi_of HO rfl) rfl (fun w' => by go_simp; rfl) ?_
      simp only [Act.put, List.setIfInBounds_toArray, List.set_cons_succ, List.set_cons_zero]
      refine planC_read _ (hi_of HO rfl) rfl rfl (fun w' hE => by have hcE := (Ext.trans _ _ _ (by (repeat (first | exact hx9.out | apply Ext.drew | apply Ext.alloc))) hE).hc; (repeat (with_reducible replace hE := Ext.unD hE)); have hcF := hE.hc; clear hE; go_simp; rfl) ?_
      simp only [Act.put, List.setIfInBounds_toArray, List.set_cons_succ, List.set_cons_zero]
      refine planC_fork ?lA101 ?lB101
      case' lA101 =>
        refine planC_call1 en_TGet4 (hi_of HO rfl) rfl rfl (by go_simp; rfl) (by exact (HG.out _ (by (repeat (first | exact Ext.refl _ | apply Ext.drew_left | apply Ext.drew | apply Ext.alloc))))) ?_
        rintro e v102 ⟨rfl, hx102⟩
        refine ⟨_, rfl, fun _ => hx102, ?_⟩
        have hy102 := hid_mk (by first | (with_reducible exact Ext.unD hx102) | exact hx102 : Ext _ v102)
        replace hx102 := Ext.trans _ _ _ (by (repeat (first | exact hx9.out | apply Ext.drew | apply Ext.alloc))) hx102
        clear hc9 hl9 he9 hn9
        have hc102 := hx102.hc; have hl102 := hx102.hl; have he102 := hx102.hle; have hn102 := hx102.hne; replace hx102 := hid_mk hx102
        simp only [Act.put, List.setIfInBounds_toArray, List.set_cons_succ, List.set_cons_zero]
        have HV := hid_mk hx102.out
        try have HZV := hid_mk (EnB4.ext (EnB4.new W2 zV4) hy102.out)
        refine planC_calm _ (hi_of HO rfl) rfl (fun w' => by go_simp; rfl) ?_
        simp only [Act.put, List.setIfInBounds_toArray, List.set_cons_succ, List.set_cons_zero]
        refine planC_calm _ (hi_of HO rfl) rfl (fun w' => by go_simp; rfl) ?_
        simp only [Act.put, List.setIfInBounds_toArray, List.set_cons_succ, List.set_cons_zero]
        refine planC_calm _ (hi_of HO rfl) rfl (fun w' => by go_simp; rfl) ?_
        simp only [Act.put, List.setIfInBounds_toArray, List.set_cons_succ, List.set_cons_zero]
        refine planC_loud1 (hi_of HO rfl) rfl ?_
        go_simp
        refine ⟨by (repeat (first | exact Ext.refl _ | apply Ext.drew_left | apply Ext.drew | apply Ext.alloc)), ?_⟩
        try (have z0 := HZV.out.c0; have z1 := HZV.out.c1; have z2 := HZV.out.c2; have z3 := HZV.out.c3; have z4 := HZV.out.c4; have y0 := HZV.out.f 0; have y1 := HZV.out.f 1; have y2 := HZV.out.f 2; have y3 := HZV.out.f 3; have y4 := HZV.out.f 4; have zl := HZV.out.lt)
        refine planC_loud1 (hi_of HO rfl) rfl ?_
        go_simp
        refine planC_calm _ (hi_of HO rfl) rfl (fun w' => by go_simp; rfl) ?_
        simp only [Act.put, List.setIfInBounds_toArray, List.set_cons_succ, List.set_cons_zero]
        refine planC_done ?fin103
      case' lB101 =>
        refine planC_loud1 (hi_of HO rfl) rfl ?_
        go_simp
        refine ⟨by (repeat (first | exact Ext.refl _ | apply Ext.drew_left | apply Ext.drew | apply Ext.alloc)), ?_⟩
        refine planC_call1 en_TGet4 (hi_of HO rfl) rfl rfl (by go_simp; rfl) (by exact (HG.out _ (by (repeat (first | exact Ext.refl _ | apply Ext.drew_left | apply Ext.drew | apply Ext.alloc))))) ?_
        rintro e v104 ⟨rfl, hx104⟩
        refine ⟨_, rfl, fun _ => hx104, ?_⟩
        have hy104 := hid_mk (by first | (with_reducible exact Ext.unD hx104) | exact hx104 : Ext _ v104)
        replace hx104 := Ext.trans _ _ _ (by (repeat (first | exact hx9.out | apply Ext.drew | apply Ext.alloc))) hx104
        clear hc9 hl9 he9 hn9
        have hc104 := hx104.hc; have hl104 := hx104.hl; have he104 := hx104.hle; have hn104 := hx104.hne; replace hx104 := hid_mk hx104
        simp only [Act.put, List.setIfInBounds_toArray, List.set_cons_succ, List.set_cons_zero]
        have HV := hid_mk hx104.out
        try have HZV := hid_mk (EnB4.ext (EnB4.new W2 zV4) hy104.out)
        refine planC_calm _ (hi_of HO rfl) rfl (fun w' => by go_simp; rfl) ?_
        simp only [Act.put, List.setIfInBounds_toArray, List.set_cons_succ, List.set_cons_zero]
        refine planC_calm _ (hi_of HO rfl) rfl (fun w' => by go_simp; rfl) ?_
        simp only [Act.put, List.setIfInBounds_toArray, List.set_cons_succ, List.set_cons_zero]
        refine planC_calm _ (hi_of HO rfl) rfl (fun w' => by go_simp; rfl) ?_
        simp only [Act.put, List.setIfInBounds_toArray, List.set_cons_succ, List.set_cons_zero]
        try (have z0 := HZV.out.c0; have z1 := HZV.out.c1; have z2 := HZV.out.c2; have z3 := HZV.out.c3; have z4 := HZV.out.c4; have y0 := HZV.out.f 0; have y1 := HZV.out.f 1; have y2 := HZV.out.f 2; have y3 := HZV.out.f 3; have y4 := HZV.out.f 4; have zl := HZV.out.lt)
        refine planC_loud1 (hi_of HO rfl) rfl ?_
        go_simp
        refine planC_calm _ (hi_of HO rfl) rfl (fun w' => by go_simp; rfl) ?_
        simp only [Act.put, List.setIfInBounds_toArray, List.set_cons_succ, List.set_cons_zero]
        refine planC_done ?fin105
      case lA101 =>
        refine gen_world (P := Tryd.prog) (fun V => EnB4 V v102.heap.size mv ∧ EnB4 V xb e ∧ Ext w V) ⟨EnB4.new v102 mv, (HB.out.ext HV.out).ext (by (repeat (first | exact Ext.refl _ | apply Ext.drew_left | apply Ext.drew | apply Ext.alloc))), Ext.trans _ _ _ HX.out (Ext.trans _ _ _ HV.out (by (repeat (first | exact Ext.refl _ | apply Ext.drew_left | apply Ext.drew | apply Ext.alloc))))⟩ ?_
        rintro V ⟨h7, h3, hxV⟩
        have H7 := hid_mk h7
        have H3 := hid_mk h3
        have HXV := hid_mk hxV
        have HSV := hid_mk (HS0.out.ext hxV)
        clear h7 h3 hxV
        obtain ⟨q, hq⟩ : ∃ q, v102.heap.size = q := ⟨_, rfl⟩
        rw [hq] at H7
        simp only [hq]
        clear hq
        have b0 := H7.out.c0
        have b1 := H7.out.c1
        have b2 := H7.out.c2
        have b3 := H7.out.c3
        have b4 := H7.out.c4
        have g0 := H7.out.f 0
        have g1 := H7.out.f 1
        have g2 := H7.out.f 2
        have g3 := H7.out.f 3
        have g4 := H7.out.f 4
        have bl := H7.out.lt
        have a0 := H3.out.c0
        have a1 := H3.out.c1
        have a2 := H3.out.c2
        have a3 := H3.out.c3
        have a4 := H3.out.c4
        have f0 := H3.out.f 0
        have f1 := H3.out.f 1
        have f2 := H3.out.f 2
        have f3 := H3.out.f 3
        have f4 := H3.out.f 4
        have al := H3.out.lt
        cases hf : fndE e.key s.l with
        | none =>
          have hms : ms = false := by rw [← HM.out.2, hf]; rfl
          subst hms
          have htb : tkB s e = true := by unfold tkB; rw [HT0.out, hf]; rfl
          go_wp2_with fail
          refine (stLay_any e HSV.out HR.out (HL.out.ext HXV.out)).mono ?_
          rintro r w9 ⟨⟨v, rfl⟩, hp⟩
          have HP := hid_mk (show StPost V sb mb tb n s (layS s e) w9 from hp)
          clear hp
          go_wp2
          refine bodyPost_ret (v := .tuple #[.bool true, .int .i64 0]) (by unfold results; rw [Tryd.results27]; go_simp; first | done | rfl) rfl ⟨by rw [htb, HT0.out], ?_⟩
          rw [tkS, if_pos htb]
          exact HP.out.from HXV.out
        | some x =>
          have hms : ms = true := by rw [← HM.out.2, hf]; rfl
          have hmv : mv = x := by rw [← HM.out.1, hf]; rfl
          subst hms
          subst hmv
          go_wp2_with fail
          refine (iNewer_any e mv V).mono ?_
          rintro r w8 ⟨rfl, hx8⟩
          have HX8 := hid_mk (Ext.trans _ _ _ HXV.out hx8)
          have HS8 := hid_mk (HSV.out.ext hx8)
          replace H3 := hid_mk (H3.out.ext hx8)
          clear b0 b1 b2 b3 b4 g0 g1 g2 g3 g4 bl a0 a1 a2 a3 a4 f0 f1 f2 f3 f4 al hx8
          have a0 := H3.out.c0
          have a1 := H3.out.c1
          have a2 := H3.out.c2
          have a3 := H3.out.c3
          have a4 := H3.out.c4
          have f0 := H3.out.f 0
          have f1 := H3.out.f 1
          have f2 := H3.out.f 2
          have f3 := H3.out.f 3
          have f4 := H3.out.f 4
          have al := H3.out.lt
          cases hnw : newer e mv with
          | false =>
            have htb : tkB s e = false := by unfold tkB; rw [hf]; show (_ && newer e mv) = false; rw [hnw, Bool.and_false]
            go_wp2
            refine bodyPost_ret (v := .tuple #[.bool false, .int .i64 0]) (by unfold results; rw [Tryd.results27]; go_simp; first | done | rfl) rfl ⟨by rw [htb, HT0.out], ?_⟩
            rw [tkS, if_neg (by rw [htb]; simp)]
            exact StPost.still HS0.out HX8.out
          | true =>
            have htb : tkB s e = true := by unfold tkB; rw [HT0.out, hf]; show (_ && newer e mv) = true; rw [hnw]; rfl
            go_wp2_with fail
            refine (stLay_any e HS8.out HR.out (HL.out.ext HX8.out)).mono ?_
            rintro r w9 ⟨⟨v, rfl⟩, hp⟩
            have HP := hid_mk (show StPost w8 sb mb tb n s (layS s e) w9 from hp)
            clear hp
            go_wp2
            refine bodyPost_ret (v := .tuple #[.bool true, .int .i64 0]) (by unfold results; rw [Tryd.results27]; go_simp; first | done | rfl) rfl ⟨by rw [htb, HT0.out], ?_⟩
            rw [tkS, if_pos htb]
            exact HP.out.from HX8.out
      case lB101 =>
        have hxz : Xl [W2.heap.size] v104 (((((v104.setCell ⟨W2.heap.size, 0, none⟩ (.string mv.key)).setCell ⟨W2.heap.size, 1, none⟩ (.int .i64 mv.ctr)).setCell ⟨W2.heap.size, 2, none⟩ (.int .i64 mv.node)).setCell ⟨W2.heap.size, 3, none⟩ (.string mv.val)).setCell ⟨W2.heap.size, 4, none⟩ (.bool mv.dead)) := by (repeat (first | with_reducible exact Xl.refl _ | with_reducible apply Xl.alloc | with_reducible apply Xl.drew | with_reducible apply Xl.set | (focus (simp; done))))
        have HXZ := hid_mk hxz
        have hxl : xb ∉ [W2.heap.size] := by have := HB.out.lt; simp; omega
        clear hxz
        refine gen_world (P := Tryd.prog) (fun V => EnB4 V W2.heap.size mv ∧ EnB4 V xb e ∧ Ext w V) ⟨HZV.out.setAll, ⟨(HXZ.out.block _ (HB.out.ext HV.out).lt hxl).trans (HB.out.ext HV.out).b⟩, Xl.ext (Ext.trans _ _ _ HX.out HV.out) HXZ.out (by intro k hk; rw [List.mem_singleton.1 hk]; exact HX.out.below.size)⟩ ?_
        rintro V ⟨h7, h3, hxV⟩
        have H7 := hid_mk h7
        have H3 := hid_mk h3
        have HXV := hid_mk hxV
        have HSV := hid_mk (HS0.out.ext hxV)
        clear h7 h3 hxV
        obtain ⟨q, hq⟩ : ∃ q, W2.heap.size = q := ⟨_, rfl⟩
        rw [hq] at H7
        simp only [hq]
        clear hq
        have b0 := H7.out.c0
        have b1 := H7.out.c1
        have b2 := H7.out.c2
        have b3 := H7.out.c3
        have b4 := H7.out.c4
        have g0 := H7.out.f 0
        have g1 := H7.out.f 1
        have g2 := H7.out.f 2
        have g3 := H7.out.f 3
        have g4 := H7.out.f 4
        have bl := H7.out.lt
        have a0 := H3.out.c0
        have a1 := H3.out.c1
        have a2 := H3.out.c2
        have a3 := H3.out.c3
        have a4 := H3.out.c4
        have f0 := H3.out.f 0
        have f1 := H3.out.f 1
        have f2 := H3.out.f 2
        have f3 := H3.out.f 3
        have f4 := H3.out.f 4
        have al := H3.out.lt
        cases hf : fndE e.key s.l with
        | none =>
          have hms : ms = false := by rw [← HM.out.2, hf]; rfl
          subst hms
          have htb : tkB s e = true := by unfold tkB; rw [HT0.out, hf]; rfl
          go_wp2_with fail
          refine (stLay_any e HSV.out HR.out (HL.out.ext HXV.out)).mono ?_
          rintro r w9 ⟨⟨v, rfl⟩, hp⟩
          have HP := hid_mk (show StPost V sb mb tb n s (layS s e) w9 from hp)
          clear hp
          go_wp2
          refine bodyPost_ret (v := .tuple #[.bool true, .int .i64 0]) (by unfold results; rw [Tryd.results27]; go_simp; first | done | rfl) rfl ⟨by rw [htb, HT0.out], ?_⟩
          rw [tkS, if_pos htb]
          exact HP.out.from HXV.out
        | some x =>
          have hms : ms = true := by rw [← HM.out.2, hf]; rfl
          have hmv : mv = x := by rw [← HM.out.1, hf]; rfl
          subst hms
          subst hmv
          go_wp2_with fail
          refine (iNewer_any e mv V).mono ?_
          rintro r w8 ⟨rfl, hx8⟩
          have HX8 := hid_mk (Ext.trans _ _ _ HXV.out hx8)
          have HS8 := hid_mk (HSV.out.ext hx8)
          replace H3 := hid_mk (H3.out.ext hx8)
          clear b0 b1 b2 b3 b4 g0 g1 g2 g3 g4 bl a0 a1 a2 a3 a4 f0 f1 f2 f3 f4 al hx8
          have a0 := H3.out.c0
          have a1 := H3.out.c1
          have a2 := H3.out.c2
          have a3 := H3.out.c3
          have a4 := H3.out.c4
          have f0 := H3.out.f 0
          have f1 := H3.out.f 1
          have f2 := H3.out.f 2
          have f3 := H3.out.f 3
          have f4 := H3.out.f 4
          have al := H3.out.lt
          cases hnw : newer e mv with
          | false =>
            have htb : tkB s e = false := by unfold tkB; rw [hf]; show (_ && newer e mv) = false; rw [hnw, Bool.and_false]
            go_wp2
            refine bodyPost_ret (v := .tuple #[.bool false, .int .i64 0]) (by unfold results; rw [Tryd.results27]; go_simp; first | done | rfl) rfl ⟨by rw [htb, HT0.out], ?_⟩
            rw [tkS, if_neg (by rw [htb]; simp)]
            exact StPost.still HS0.out HX8.out
          | true =>
            have htb : tkB s e = true := by unfold tkB; rw [HT0.out, hf]; show (_ && newer e mv) = true; rw [hnw]; rfl
            go_wp2_with fail
            refine (stLay_any e HS8.out HR.out (HL.out.ext HX8.out)).mono ?_
            rintro r w9 ⟨⟨v, rfl⟩, hp⟩
            have HP := hid_mk (show StPost w8 sb mb tb n s (layS s e) w9 from hp)
            clear hp
            go_wp2
            refine bodyPost_ret (v := .tuple #[.bool true, .int .i64 0]) (by unfold results; rw [Tryd.results27]; go_simp; first | done | rfl) rfl ⟨by rw [htb, HT0.out], ?_⟩
            rw [tkS, if_pos htb]
            exact HP.out.from HX8.out
  · have ht0 : tkE s e = c := by unfold tkE; rw [HC.out, if_pos hz]
    have htb : tkB s e = false := by unfold tkB; rw [ht0, decide_eq_false hz]; rfl
    have a0 := HB.out.c0
    have a1 := HB.out.c1
    have a2 := HB.out.c2
    have a3 := HB.out.c3
    have a4 := HB.out.c4
    have f0 := HB.out.f 0
    have f1 := HB.out.f 1
    have f2 := HB.out.f 2
    have f3 := HB.out.f 3
    have f4 := HB.out.f 4
    have al := HB.out.lt
    go_wp2
    refine bodyPost_ret (v := .tuple #[.bool false, .int .i64 c]) (by unfold results; rw [Tryd.results27]; go_simp; first | done | rfl) rfl ⟨by rw [htb, ht0], ?_⟩
    rw [tkS, if_neg (by rw [htb]; simp)]
    exact StPost.still HS0.out HX.out
end
end Go.Proofs.YtokcgnbjkbhmiaaDoor
