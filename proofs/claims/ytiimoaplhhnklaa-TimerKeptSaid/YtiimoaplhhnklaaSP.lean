/- Timers: a pair, of the program and of the document: fresh, same. -/
import Derived.Test.YtiimoaplhhnklaaSO
namespace Go.Proofs.Ytiimoaplhhnklaa
open Go.RowKit
set_option maxHeartbeats 4000000
set_option maxRecDepth 100000
set_option linter.unusedSimpArgs false
set_option linter.unusedVariables false
attribute [-go_sem] Builtin.append_
attribute [local go_sem ↓] neq_nm eql_nm
theorem en_TmSame : Enters Try.prog 29 := ⟨_, Try.func29, by kernel_rfl, rfl⟩
theorem en_TmStep : Enters Try.prog 28 := ⟨_, Try.func28, by kernel_rfl, rfl⟩
theorem en_TmFresh : Enters Try.prog 27 := ⟨_, Try.func27, by kernel_rfl, rfl⟩
theorem en_TmGoes : Enters Try.prog 30 := ⟨_, Try.func30, by kernel_rfl, rfl⟩
theorem en_TmDue : Enters Try.prog 31 := ⟨_, Try.func31, by kernel_rfl, rfl⟩
structure PairAt (B : Nat) (w : World) (tb mb : Nat) (v : Value) (rb : Nat) (rv : Value) (l : List Al) : Prop where
  t : TimerAt B w tb mb v l
  d : RTm B w rb rv l
  ap : ∀ x ∈ fp tb mb v, x ∉ fpR rb rv
theorem PairAt.ext {B : Nat} {w w' : World} {tb mb : Nat} {v : Value} {rb : Nat} {rv : Value} {l : List Al} (h : PairAt B w tb mb v rb rv l) (hx : Ext w w') : PairAt B w' tb mb v rb rv l := ⟨h.t.ext hx, h.d.ext hx, h.ap⟩
abbrev pairV (tb rb : Nat) : Value := .agg #[.pointer (some ⟨tb, 0, none⟩), .pointer (some ⟨rb, 0, none⟩)]
theorem RTm.lower {B B' : Nat} {w : World} {rb : Nat} {v : Value} {l : List Al} (h : RTm B w rb v l) (hB : B' ≤ B) : RTm B' w rb v l := ⟨h.blk, OwnA.lower h.own hB, ⟨Nat.le_trans hB h.lo.1, Nat.le_trans hB h.lo.2⟩⟩
theorem fresh_any (w : World) : Calls Try.prog 27 #[] w fun e w' => ∃ tb mb rb, e = .returned (pairV tb rb) ∧ PairAt w.heap.size w' tb mb (.slice none 0 0) rb (.slice none 0 0) [] ∧ Ext w w' := by
  go_enter Try.func27, Try.ntmps27
  go_wp2_with fail
  refine (tnew_any _).mono ?_
  rintro e W1 ⟨tb, mb, rfl, hb1, hb2, ht, hx1⟩
  have HX1 := hid_mk hx1
  have HT := hid_mk ht
  have hc := hx1
  have hb := (hx1.below.block w.heap.size (by simp)).trans (heap_alloc_new w (.cells #[.pointer none, .pointer none] 65))
  clear hx1 ht hc
  go_wp2_with fail
  refine (rtnew_any _).mono ?_
  rintro e W2 ⟨rb, rfl, hb3, hd, hx2⟩
  have HX2 := hid_mk hx2
  have HD := hid_mk hd
  have hb4 := (hx2.below.block w.heap.size (Array.getElem?_eq_some_iff.1 hb).1).trans hb
  have g0 : W2.cell? ⟨w.heap.size, 0, none⟩ = some (.pointer none) := by simp [World.cell?, hb4]
  have g1 : W2.cell? ⟨w.heap.size, 1, none⟩ = some (.pointer none) := by simp [World.cell?, hb4]
  have f0 : W2.frozen? ⟨w.heap.size, 0, none⟩ = false := by simp [World.frozen?, hb4]
  have f1 : W2.frozen? ⟨w.heap.size, 1, none⟩ = false := by simp [World.frozen?, hb4]
  have hsz : w.heap.size + 1 ≤ W1.heap.size := by have := HX1.out.below.size; simpa using this
  simp at hb1 hb2
  clear hx2 hd
  go_wp2
  have hxl : Xl [w.heap.size] W2 ((W2.setCell ⟨w.heap.size, 0, none⟩ (.pointer (some ⟨tb, 0, none⟩))).setCell ⟨w.heap.size, 1, none⟩ (.pointer (some ⟨rb, 0, none⟩))) := ((Xl.refl W2).set (by simp)).set (by simp)
  refine bodyPost_ret (v := pairV tb rb) (by unfold results; rw [Try.results27]; go_simp) rfl ⟨tb, mb, rb, rfl, ⟨((HT.out.ext HX2.out).keep hxl (by simp; omega) (by simp; omega) (by intro g hg; cases hg)).lower (by simp), (HD.out.away hxl (by intro x hx; simp [fpR, Value.ownBlock] at hx; subst hx; simp; omega)).lower (by omega), ?_⟩, ?_⟩
  · intro x hx hy
    have h1 := (HT.out.fp_lt x hx).2
    simp [fpR, Value.ownBlock] at hy
    omega
  · exact Xl.ext (Ext.trans _ _ _ (Ext.trans _ _ _ (show Ext w (w.alloc (.cells #[.pointer none, .pointer none] 65)) by (repeat (first | exact Ext.refl _ | apply Ext.drew_left | apply Ext.drew | apply Ext.alloc))) HX1.out) HX2.out) hxl (by simp)
theorem nextV_form (l : List Al) : ∃ (n : Nm) (t : Int) (b : Bool), nextV l = .tuple #[nmV n, .int .i64 t, .bool b] := by
  cases l with
  | nil => exact ⟨_, _, _, rfl⟩
  | cons x l => exact ⟨_, _, _, rfl⟩
theorem same_any {B : Nat} {w : World} {tb mb : Nat} {v : Value} {rb : Nat} {rv : Value} {l : List Al} (h : PairAt B w tb mb v rb rv l) :
    Calls Try.prog 29 #[pairV tb rb] w fun e w' => e = .returned (.bool true) ∧ Ext w w' := by
  have H := hid_mk h
  obtain ⟨n, t, b, hn⟩ := nextV_form l
  have HN := hid_mk hn
  clear h hn
  go_enter Try.func29, Try.ntmps29
  go_wp2_with fail
  have hx0 : Ext w (w.alloc (.cells #[.pointer (some ⟨tb, 0, none⟩), .pointer (some ⟨rb, 0, none⟩)] 65)) := by (repeat (first | exact Ext.refl _ | apply Ext.drew_left | apply Ext.drew | apply Ext.alloc))
  refine (tnext_any (H.out.t.ext hx0)).mono ?_
  rintro e W1 ⟨rfl, hx1⟩
  have HX1 := hid_mk (Ext.trans _ _ _ hx0 hx1)
  have h0 := cell_ext hx1 (newc (w := w) (c := #[.pointer (some ⟨tb, 0, none⟩), .pointer (some ⟨rb, 0, none⟩)]) (t := 65) (i := 0) rfl)
  have h1 := cell_ext hx1 (newc (w := w) (c := #[.pointer (some ⟨tb, 0, none⟩), .pointer (some ⟨rb, 0, none⟩)]) (t := 65) (i := 1) rfl)
  have hwl := cell_lt h0
  rw [HN.out]
  clear hx1 hx0
  go_wp2_with fail
  have hx1 : Ext W1 (W1.alloc (.cells #[.int .i64 n.1, .int .i64 n.2.1, .int .i64 n.2.2] 54)) := by (repeat (first | exact Ext.refl _ | apply Ext.drew_left | apply Ext.drew | apply Ext.alloc))
  refine (rtnext_any ((H.out.d.ext HX1.out).ext hx1)).mono ?_
  rintro e W2 ⟨rfl, hx2⟩
  have HX2 := hid_mk (Ext.trans _ _ _ (Ext.trans _ _ _ HX1.out hx1) hx2)
  have g0 := cell_ext (Ext.trans _ _ _ hx1 hx2) h0
  have g1 := cell_ext (Ext.trans _ _ _ hx1 hx2) h1
  have hwl2 := cell_lt g0
  have n0 := cell_ext hx2 (newc (w := W1) (c := #[.int .i64 n.1, .int .i64 n.2.1, .int .i64 n.2.2]) (t := 54) (i := 0) rfl)
  have n1 := cell_ext hx2 (newc (w := W1) (c := #[.int .i64 n.1, .int .i64 n.2.1, .int .i64 n.2.2]) (t := 54) (i := 1) rfl)
  have n2 := cell_ext hx2 (newc (w := W1) (c := #[.int .i64 n.1, .int .i64 n.2.1, .int .i64 n.2.2]) (t := 54) (i := 2) rfl)
  have hnl := cell_lt n0
  rw [HN.out]
  clear hx1 hx2 h0 h1 hwl
  go_wp2_with fail
  refine wp_region_held_below (fun _ => true) (.quiet 0 (.quiet 1 (.quiet 2 (.quiet 3 (.quiet 4 (.quiet 5 (.quiet 6 (.quiet 7 (.quiet 8 (.quiet 9 (.quiet 10 (.quiet 11 (.quiet 12 (.quiet 13 (.quiet 14 (.quiet 15 (.quiet 16 (.quiet 17 (.quiet 18 (.quiet 19 (.quiet 20 (.quiet 21 (.quiet 22 .done))))))))))))))))))))))) (by kernel_rfl) (by kernel_rfl) (by intro c a w d v h; cases d <;> exact h) (fun ops HO => ?_)
  refine plan_read _ (hi_of HO rfl) rfl (fun w' hE => by (repeat (with_reducible replace hE := Ext.unD hE)); have hcE := hE.hc; clear hE; go_simp; rfl) ?_
  simp only [Act.put, List.setIfInBounds_toArray, List.set_cons_succ, List.set_cons_zero]
  refine plan_read _ (hi_of HO rfl) rfl (fun w' hE => by (repeat (with_reducible replace hE := Ext.unD hE)); have hcE := hE.hc; clear hE; go_simp; rfl) ?_
  simp only [Act.put, List.setIfInBounds_toArray, List.set_cons_succ, List.set_cons_zero]
  refine plan_read _ (hi_of HO rfl) rfl (fun w' hE => by (repeat (with_reducible replace hE := Ext.unD hE)); have hcE := hE.hc; clear hE; go_simp; rfl) ?_
  simp only [Act.put, List.setIfInBounds_toArray, List.set_cons_succ, List.set_cons_zero]
  refine plan_read _ (hi_of HO rfl) rfl (fun w' hE => by (repeat (with_reducible replace hE := Ext.unD hE)); have hcE := hE.hc; clear hE; go_simp; rfl) ?_
  simp only [Act.put, List.setIfInBounds_toArray, List.set_cons_succ, List.set_cons_zero]
  refine plan_read _ (hi_of HO rfl) (by rw [HO.out]; rfl) (fun w' hE => by (repeat (with_reducible replace hE := Ext.unD hE)); have hcE := hE.hc; clear hE; go_simp; rfl) ?_
  simp only [Act.put, List.setIfInBounds_toArray, List.set_cons_succ, List.set_cons_zero]
  refine plan_read _ (hi_of HO rfl) (by rw [HO.out]; rfl) (fun w' hE => by (repeat (with_reducible replace hE := Ext.unD hE)); have hcE := hE.hc; clear hE; go_simp; rfl) ?_
  simp only [Act.put, List.setIfInBounds_toArray, List.set_cons_succ, List.set_cons_zero]
  refine plan_read _ (hi_of HO rfl) (by rw [HO.out]; rfl) (fun w' hE => by (repeat (with_reducible replace hE := Ext.unD hE)); have hcE := hE.hc; clear hE; go_simp; rfl) ?_
  simp only [Act.put, List.setIfInBounds_toArray, List.set_cons_succ, List.set_cons_zero]
  refine plan_read _ (hi_of HO rfl) rfl (fun w' hE => by (repeat (with_reducible replace hE := Ext.unD hE)); have hcE := hE.hc; clear hE; go_simp; rfl) ?_
  simp only [Act.put, List.setIfInBounds_toArray, List.set_cons_succ, List.set_cons_zero]
  refine plan_read _ (hi_of HO rfl) rfl (fun w' hE => by (repeat (with_reducible replace hE := Ext.unD hE)); have hcE := hE.hc; clear hE; go_simp; rfl) ?_
  simp only [Act.put, List.setIfInBounds_toArray, List.set_cons_succ, List.set_cons_zero]
  refine plan_read _ (hi_of HO rfl) (by rw [HO.out]; rfl) (fun w' hE => by (repeat (with_reducible replace hE := Ext.unD hE)); have hcE := hE.hc; clear hE; go_simp; rfl) ?_
  simp only [Act.put, List.setIfInBounds_toArray, List.set_cons_succ, List.set_cons_zero]
  refine plan_read _ (hi_of HO rfl) (by rw [HO.out]; rfl) (fun w' hE => by (repeat (with_reducible replace hE := Ext.unD hE)); have hcE := hE.hc; clear hE; go_simp; rfl) ?_
  simp only [Act.put, List.setIfInBounds_toArray, List.set_cons_succ, List.set_cons_zero]
  refine plan_read _ (hi_of HO rfl) (by rw [HO.out]; rfl) (fun w' hE => by (repeat (with_reducible replace hE := Ext.unD hE)); have hcE := hE.hc; clear hE; go_simp; rfl) ?_
  simp only [Act.put, List.setIfInBounds_toArray, List.set_cons_succ, List.set_cons_zero]
  refine plan_read _ (hi_of HO rfl) rfl (fun w' hE => by (repeat (with_reducible replace hE := Ext.unD hE)); have hcE := hE.hc; clear hE; go_simp; rfl) ?_
  simp only [Act.put, List.setIfInBounds_toArray, List.set_cons_succ, List.set_cons_zero]
  refine plan_read _ (hi_of HO rfl) rfl (fun w' hE => by (repeat (with_reducible replace hE := Ext.unD hE)); have hcE := hE.hc; clear hE; go_simp; rfl) ?_
  simp only [Act.put, List.setIfInBounds_toArray, List.set_cons_succ, List.set_cons_zero]
  refine plan_read _ (hi_of HO rfl) (by rw [HO.out]; rfl) (fun w' hE => by (repeat (with_reducible replace hE := Ext.unD hE)); have hcE := hE.hc; clear hE; go_simp; rfl) ?_
  simp only [Act.put, List.setIfInBounds_toArray, List.set_cons_succ, List.set_cons_zero]
  refine plan_read _ (hi_of HO rfl) (by rw [HO.out]; rfl) (fun w' hE => by (repeat (with_reducible replace hE := Ext.unD hE)); have hcE := hE.hc; clear hE; go_simp; rfl) ?_
  simp only [Act.put, List.setIfInBounds_toArray, List.set_cons_succ, List.set_cons_zero]
  refine plan_pure _ en_TmLen (hi_of HO rfl) (by rw [HO.out]; rfl) rfl (by go_simp; rfl) (fun w' hE => by exact tlen_any ((H.out.t.ext (by exact HX2.out.alloc _)).ext (Ext.unD hE))) ?_
  simp only [Act.put, List.setIfInBounds_toArray, List.set_cons_succ, List.set_cons_zero]
  refine plan_read _ (hi_of HO rfl) (by rw [HO.out]; rfl) (fun w' hE => by (repeat (with_reducible replace hE := Ext.unD hE)); have hcE := hE.hc; clear hE; go_simp; rfl) ?_
  simp only [Act.put, List.setIfInBounds_toArray, List.set_cons_succ, List.set_cons_zero]
  refine plan_read _ (hi_of HO rfl) (by rw [HO.out]; rfl) (fun w' hE => by (repeat (with_reducible replace hE := Ext.unD hE)); have hcE := hE.hc; clear hE; go_simp; rfl) ?_
  simp only [Act.put, List.setIfInBounds_toArray, List.set_cons_succ, List.set_cons_zero]
  refine plan_pure _ en_rTmLen (hi_of HO rfl) (by rw [HO.out]; rfl) rfl (by go_simp; rfl) (fun w' hE => by exact rtlen_any ((H.out.d.ext (by exact HX2.out.alloc _)).ext (Ext.unD hE))) ?_
  simp only [Act.put, List.setIfInBounds_toArray, List.set_cons_succ, List.set_cons_zero]
  refine plan_read _ (hi_of HO rfl) (by rw [HO.out]; rfl) (fun w' hE => by (repeat (with_reducible replace hE := Ext.unD hE)); have hcE := hE.hc; clear hE; go_simp; rfl) ?_
  simp only [Act.put, List.setIfInBounds_toArray, List.set_cons_succ, List.set_cons_zero]
  refine plan_read _ (hi_of HO rfl) rfl (fun w' hE => by (repeat (with_reducible replace hE := Ext.unD hE)); have hcE := hE.hc; clear hE; go_simp; rfl) ?_
  simp only [Act.put, List.setIfInBounds_toArray, List.set_cons_succ, List.set_cons_zero]
  refine plan_read _ (hi_of HO rfl) rfl (fun w' hE => by (repeat (with_reducible replace hE := Ext.unD hE)); have hcE := hE.hc; clear hE; go_simp; rfl) ?_
  simp only [Act.put, List.setIfInBounds_toArray, List.set_cons_succ, List.set_cons_zero]
  refine plan_done ?fin101
  go_wp2
  go_ret
  exact ⟨rfl, by first | exact HX2.out.alloc _ | exact Ext.drew (HX2.out.alloc _)⟩
end Go.Proofs.Ytiimoaplhhnklaa
