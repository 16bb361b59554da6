/- Timers: one step of a pair: Due; every step. -/
import Derived.Test.YtiimoaplhhnklaaST
namespace Go.Proofs.Ytiimoaplhhnklaa
open Go.RowKit
set_option maxHeartbeats 4000000
set_option maxRecDepth 100000
set_option linter.unusedSimpArgs false
set_option linter.unusedVariables false
attribute [-go_sem] Builtin.append_
attribute [local go_sem ↓] neq_nm eql_nm

theorem dueA_len (t : Int) (l : List Al) : (dueA t l).length ≤ l.length := (List.takeWhile_sublist _).length_le
theorem step_due {B : Nat} {w : World} {tb mb : Nat} {v : Value} {rb : Nat} {rv : Value} {l : List Al} (h : Pr B w tb mb v rb rv l l) (o : TOp) (hl : l.length ≤ 10000000000) (hk : o.k = 4) :
    Calls Try.prog 28 #[pairV tb rb, opV o] w fun e w' => e = .returned (.bool true) ∧ PPost B w tb mb v rb rv l w' := by
  have HLEN := hid_mk hl
  have H := hid_mk h
  clear h hl
  obtain ⟨k, n, t, stop, snd⟩ := o
  dsimp only at hk ⊢
  subst hk
  dsimp only [opV]
  go_enter Try.func28, Try.ntmps28
  go_wp2_with fail
  refine gen_code (fun W1 => StAt w W1 tb rb 4 n t stop) (stAt_new w tb rb 4 n t stop snd) ?_
  intro W1 hst
  have HX1 := hid_mk hst.x
  have hsz := hst.sz
  have hzp : w.heap.size < W1.heap.size := by omega
  have hzo : w.heap.size + 1 < W1.heap.size := by omega
  obtain ⟨-, -, p0, p1, o0, o1, o2, o3, o4, o5⟩ := hst
  refine wp_region_held_below (fun _ => true) (.quiet 0 (.quiet 1 (.quiet 2 (.quiet 3 (.quiet 5 (.quiet 6 (.quiet 7 (.quiet 8 (.quiet 10 (.quiet 11 (.alt 4 (.alt 9 (.alt 12 (.quiet 13 .done) .stop) .stop) .stop))))))))))) (by kernel_rfl) (by kernel_rfl) (by intro c a w d v h; cases d <;> exact h) (fun ops HO => ?_)
  refine plan_read _ (hi_of HO rfl) rfl (fun w' hE => by (repeat (with_reducible replace hE := Ext.unD hE)); have hcE := hE.hc; clear hE; go_simp; rfl) ?_
  simp only [Act.put, List.setIfInBounds_toArray, List.set_cons_succ, List.set_cons_zero]
  refine plan_read _ (hi_of HO rfl) rfl (fun w' hE => by (repeat (with_reducible replace hE := Ext.unD hE)); have hcE := hE.hc; clear hE; go_simp; rfl) ?_
  simp only [Act.put, List.setIfInBounds_toArray, List.set_cons_succ, List.set_cons_zero]
  refine plan_read _ (hi_of HO rfl) rfl (fun w' hE => by (repeat (with_reducible replace hE := Ext.unD hE)); have hcE := hE.hc; clear hE; go_simp; rfl) ?_
  simp only [Act.put, List.setIfInBounds_toArray, List.set_cons_succ, List.set_cons_zero]
  refine plan_read _ (hi_of HO rfl) rfl (fun w' hE => by (repeat (with_reducible replace hE := Ext.unD hE)); have hcE := hE.hc; clear hE; go_simp; rfl) ?_
  simp only [Act.put, List.setIfInBounds_toArray, List.set_cons_succ, List.set_cons_zero]
  refine plan_read _ (hi_of HO rfl) rfl (fun w' hE => by (repeat (with_reducible replace hE := Ext.unD hE)); have hcE := hE.hc; clear hE; go_simp; rfl) ?_
  simp only [Act.put, List.setIfInBounds_toArray, List.set_cons_succ, List.set_cons_zero]
  refine plan_read _ (hi_of HO rfl) rfl (fun w' hE => by (repeat (with_reducible replace hE := Ext.unD hE)); have hcE := hE.hc; clear hE; go_simp; rfl) ?_
  simp only [Act.put, List.setIfInBounds_toArray, List.set_cons_succ, List.set_cons_zero]
  refine plan_read _ (hi_of HO rfl) rfl (fun w' hE => by (repeat (with_reducible replace hE := Ext.unD hE)); have hcE := hE.hc; clear hE; go_simp; rfl) ?_
  simp only [Act.put, List.setIfInBounds_toArray, List.set_cons_succ, List.set_cons_zero]
  refine plan_read _ (hi_of HO rfl) rfl (fun w' hE => by (repeat (with_reducible replace hE := Ext.unD hE)); have hcE := hE.hc; clear hE; go_simp; rfl) ?_
  simp only [Act.put, List.setIfInBounds_toArray, List.set_cons_succ, List.set_cons_zero]
  refine plan_read _ (hi_of HO rfl) rfl (fun w' hE => by (repeat (with_reducible replace hE := Ext.unD hE)); have hcE := hE.hc; clear hE; go_simp; rfl) ?_
  simp only [Act.put, List.setIfInBounds_toArray, List.set_cons_succ, List.set_cons_zero]
  refine plan_read _ (hi_of HO rfl) rfl (fun w' hE => by (repeat (with_reducible replace hE := Ext.unD hE)); have hcE := hE.hc; clear hE; go_simp; rfl) ?_
  simp only [Act.put, List.setIfInBounds_toArray, List.set_cons_succ, List.set_cons_zero]
  refine plan_call1 en_TmDue (hi_of HO rfl) rfl rfl (by go_simp; rfl) (by exact due_any (H.out.ext (Ext.drew HX1.out)).t t (by have := HLEN.out; omega)) ?_
  rintro e w4 ⟨lb, nb, v4, rfl, hd4, hx4⟩
  have HD4 := hid_mk hd4
  have HX4 := hid_mk hx4
  clear hd4 hx4
  refine ⟨_, rfl, (fun _ => HX4.out), ?_⟩
  simp only [Act.put, List.setIfInBounds_toArray, List.set_cons_succ, List.set_cons_zero]
  refine plan_call1 en_rTmDue (hi_of HO rfl) rfl rfl (by go_simp; rfl) (by exact rdue_any (H.out.ext (Ext.trans _ _ _ (Ext.drew HX1.out) HX4.out)).d t (by have := HLEN.out; omega)) ?_
  rintro e w9 ⟨v9, rfl, ho9, hx9⟩
  have HO9 := hid_mk ho9
  have HX9 := hid_mk hx9
  clear ho9 hx9
  refine ⟨_, rfl, (fun _ => HX9.out), ?_⟩
  simp only [Act.put, List.setIfInBounds_toArray, List.set_cons_succ, List.set_cons_zero]
  refine plan_call1 en_TmGoes (hi_of HO rfl) rfl rfl (by go_simp; rfl) (by exact goes_any _ lb nb v4 v9 l t stop (cell_ext HX9.out HD4.out.cl) (cell_ext HX9.out HD4.out.cn) ((HD4.out.own.sl (by have := HLEN.out; omega)).ext HX9.out) (HO9.out.sl (by have := HLEN.out; have := dueA_len t l; omega))) ?_
  rintro e w12 ⟨rfl, hx12⟩
  have HP := hid_mk (ppost_ext H.out (Ext.trans _ _ _ (Ext.trans _ _ _ (Ext.trans _ _ _ (Ext.drew HX1.out) HX4.out) HX9.out) hx12))
  have HX12 := hid_mk hx12
  clear hx12
  refine ⟨_, rfl, (fun _ => HX12.out), ?_⟩
  simp only [Act.put, List.setIfInBounds_toArray, List.set_cons_succ, List.set_cons_zero]
  refine plan_read _ (hi_of HO rfl) rfl (fun w' hE => by (repeat (with_reducible replace hE := Ext.unD hE)); have hcE := hE.hc; clear hE; go_simp; rfl) ?_
  simp only [Act.put, List.setIfInBounds_toArray, List.set_cons_succ, List.set_cons_zero]
  refine plan_done ?fin101
  go_wp2
  go_ret
  exact ⟨rfl, HP.out⟩
theorem step_any {B : Nat} {w : World} {tb mb : Nat} {v : Value} {rb : Nat} {rv : Value} {l : List Al} (h : Pr B w tb mb v rb rv l l) (o : TOp) (hl : l.length ≤ 10000000000) :
    Calls Try.prog 28 #[pairV tb rb, opV o] w fun e w' => e = .returned (.bool true) ∧ PPost B w tb mb v rb rv (stepL o l) w' := by
  unfold stepL
  by_cases h0 : o.k = 0
  · rw [if_pos h0]; exact step_set h o hl h0
  rw [if_neg h0]
  by_cases h1 : o.k = 1
  · rw [if_pos h1]; exact step_drop h o hl h1
  rw [if_neg h1]
  by_cases h2 : o.k = 2
  · exact step_at h o hl h2
  by_cases h3 : o.k = 3
  · exact step_same h o hl h3
  by_cases h4 : o.k = 4
  · exact step_due h o hl h4
  exact step_none h o hl h0 h1 h2 h3 h4
end Go.Proofs.Ytiimoaplhhnklaa
