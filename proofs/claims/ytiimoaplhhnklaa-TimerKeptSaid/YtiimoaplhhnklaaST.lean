/- Timers: one step of a pair, walked: the other kinds. -/
import Derived.Test.YtiimoaplhhnklaaSR
namespace Go.Proofs.Ytiimoaplhhnklaa
open Go.RowKit
set_option maxHeartbeats 4000000
set_option maxRecDepth 100000
set_option linter.unusedSimpArgs false
set_option linter.unusedVariables false
attribute [-go_sem] Builtin.append_
attribute [local go_sem ↓] neq_nm eql_nm

theorem step_drop {B : Nat} {w : World} {tb mb : Nat} {v : Value} {rb : Nat} {rv : Value} {l : List Al} (h : Pr B w tb mb v rb rv l l) (o : TOp) (hl : l.length ≤ 10000000000) (hk : o.k = 1) :
    Calls Try.prog 28 #[pairV tb rb, opV o] w fun e w' => e = .returned (.bool true) ∧ PPost B w tb mb v rb rv (del o.n l) w' := by
  have H := hid_mk h
  have HLEN := hid_mk hl
  have hlz := fun x hx => (h.fp_lt x hx).2
  obtain ⟨L, hL⟩ : ∃ L, fpP tb mb v rb rv = L := ⟨_, rfl⟩
  rw [hL] at hlz
  have hnp : w.heap.size ∉ L := fun h => by have := hlz _ h; omega
  have hno : w.heap.size + 1 ∉ L := fun h => by have := hlz _ h; omega
  have HL := hid_mk hL
  clear h hl hL hlz
  obtain ⟨k, n, t, stop, snd⟩ := o
  dsimp only at hk ⊢
  subst hk
  dsimp only [opV]
  go_enter Try.func28, Try.ntmps28
  go_wp2_with fail
  refine gen_code (fun W1 => StAt w W1 tb rb 1 n t stop) (stAt_new w tb rb 1 n t stop snd) ?_
  intro W1 hst
  have HX1 := hid_mk hst.x
  have hsz := hst.sz
  have hzp : w.heap.size < W1.heap.size := by omega
  have hzo : w.heap.size + 1 < W1.heap.size := by omega
  obtain ⟨-, -, p0, p1, o0, o1, o2, o3, o4, o5⟩ := hst
  refine wp_region_held_plan (Xl L) (fun _ => true) (.quiet 0 (.quiet 1 (.quiet 2 (.quiet 3 (.quiet 5 (.quiet 6 (.quiet 7 (.quiet 8 (.alt 4 (.alt 9 (.quiet 10 (.quiet 11 .done)) .stop) .stop))))))))) (by kernel_rfl) (by kernel_rfl) Xl.refl Xl.trans (by intro c a w d v h; cases d <;> exact h) (fun ops HO => ?_)
  refine plan_read _ (hi_of HO rfl) rfl (fun w' hE => by (repeat (with_reducible replace hE := Ext.unD hE)); have hcE := hE.hc; clear hE; go_simp; rfl) ?_
  simp only [Act.put, List.setIfInBounds_toArray, List.set_cons_succ, List.set_cons_zero]
  refine plan_read _ (hi_of HO rfl) rfl (fun w' hE => by have hcP := xl_hc hE hzp hnp; have hcO := xl_hc hE hzo hno; clear hE; go_simp; rfl) ?_
  simp only [Act.put, List.setIfInBounds_toArray, List.set_cons_succ, List.set_cons_zero]
  refine plan_read _ (hi_of HO rfl) rfl (fun w' hE => by (repeat (with_reducible replace hE := Ext.unD hE)); have hcE := hE.hc; clear hE; go_simp; rfl) ?_
  simp only [Act.put, List.setIfInBounds_toArray, List.set_cons_succ, List.set_cons_zero]
  refine plan_read _ (hi_of HO rfl) rfl (fun w' hE => by have hcP := xl_hc hE hzp hnp; have hcO := xl_hc hE hzo hno; clear hE; go_simp; rfl) ?_
  simp only [Act.put, List.setIfInBounds_toArray, List.set_cons_succ, List.set_cons_zero]
  refine plan_read _ (hi_of HO rfl) rfl (fun w' hE => by (repeat (with_reducible replace hE := Ext.unD hE)); have hcE := hE.hc; clear hE; go_simp; rfl) ?_
  simp only [Act.put, List.setIfInBounds_toArray, List.set_cons_succ, List.set_cons_zero]
  refine plan_read _ (hi_of HO rfl) rfl (fun w' hE => by have hcP := xl_hc hE hzp hnp; have hcO := xl_hc hE hzo hno; clear hE; go_simp; rfl) ?_
  simp only [Act.put, List.setIfInBounds_toArray, List.set_cons_succ, List.set_cons_zero]
  refine plan_read _ (hi_of HO rfl) rfl (fun w' hE => by (repeat (with_reducible replace hE := Ext.unD hE)); have hcE := hE.hc; clear hE; go_simp; rfl) ?_
  simp only [Act.put, List.setIfInBounds_toArray, List.set_cons_succ, List.set_cons_zero]
  refine plan_read _ (hi_of HO rfl) rfl (fun w' hE => by have hcP := xl_hc hE hzp hnp; have hcO := xl_hc hE hzo hno; clear hE; go_simp; rfl) ?_
  simp only [Act.put, List.setIfInBounds_toArray, List.set_cons_succ, List.set_cons_zero]
  refine plan_call1 en_TmDrop (hi_of HO rfl) rfl rfl (by go_simp; rfl) (by exact tdrop_any (H.out.ext (Ext.drew HX1.out)).t n (by have := HLEN.out; omega)) ?_
  rintro e v6 ⟨rfl, hp6⟩
  obtain ⟨v1, hq6, hq6x, hq6f⟩ := Pr.wt (H.out.ext (Ext.drew HX1.out)) hp6.to
  have HQ6 := hid_mk (And.intro hq6 (And.intro hq6x hq6f))
  clear hp6 hq6 hq6x hq6f
  obtain ⟨ec, hec⟩ : ∃ ec : Bool, (atN n l).isSome = ec := ⟨_, rfl⟩
  have HEC := hid_mk hec
  rw [hec]
  clear hec
  refine ⟨_, rfl, (fun _ => by rw [← HL.out]; exact HQ6.out.2.1), ?_⟩
  simp only [Act.put, List.setIfInBounds_toArray, List.set_cons_succ, List.set_cons_zero]
  refine plan_call1 en_rTmDrop (hi_of HO rfl) rfl rfl (by go_simp; rfl) (by exact rdrop_any HQ6.out.1.d n (by have := HLEN.out; omega)) ?_
  rintro e v13 ⟨rfl, hp13⟩
  have HXR := hid_mk (show Xl L v6 v13 by
  obtain ⟨_, _, h2, _⟩ := hp13
  exact h2.mono' (fun k hk => by simp at hk; subst hk; rw [← HL.out]; simp [fpP, fpR]))
  obtain ⟨rv1, hq13, hq13x, hq13f⟩ := Pr.wd HQ6.out.1 hp13
  have HP := hid_mk (ppost_both (Ext.drew HX1.out) ⟨HQ6.out.2.1, HQ6.out.2.2⟩ H.out _ ⟨hq13, hq13x, hq13f⟩)
  clear hp13 hq13 hq13x hq13f
  rw [HEC.out]
  refine ⟨_, rfl, (fun _ => HXR.out), ?_⟩
  simp only [Act.put, List.setIfInBounds_toArray, List.set_cons_succ, List.set_cons_zero]
  refine plan_read _ (hi_of HO rfl) rfl (fun w' hE => by (repeat (with_reducible replace hE := Ext.unD hE)); have hcE := hE.hc; clear hE; go_simp; rfl) ?_
  simp only [Act.put, List.setIfInBounds_toArray, List.set_cons_succ, List.set_cons_zero]
  refine plan_read _ (hi_of HO rfl) rfl (fun w' hE => by (repeat (with_reducible replace hE := Ext.unD hE)); have hcE := hE.hc; clear hE; go_simp; rfl) ?_
  simp only [Act.put, List.setIfInBounds_toArray, List.set_cons_succ, List.set_cons_zero]
  refine plan_done ?fin101
  go_wp2
  go_ret
  exact ⟨rfl, HP.out⟩
theorem step_none {B : Nat} {w : World} {tb mb : Nat} {v : Value} {rb : Nat} {rv : Value} {l : List Al} (h : Pr B w tb mb v rb rv l l) (o : TOp) (hl : l.length ≤ 10000000000) (h0 : ¬ o.k = 0) (h1 : ¬ o.k = 1) (h2 : ¬ o.k = 2) (h3 : ¬ o.k = 3) (h4 : ¬ o.k = 4) :
    Calls Try.prog 28 #[pairV tb rb, opV o] w fun e w' => e = .returned (.bool true) ∧ PPost B w tb mb v rb rv l w' := by
  have H := hid_mk h
  clear h
  go_enter Try.func28, Try.ntmps28
  go_wp2
  go_ret
  exact ⟨rfl, ppost_ext H.out (by (repeat (first | exact Ext.refl _ | apply Ext.drew_left | apply Ext.drew | apply Ext.alloc)))⟩
theorem step_same {B : Nat} {w : World} {tb mb : Nat} {v : Value} {rb : Nat} {rv : Value} {l : List Al} (h : Pr B w tb mb v rb rv l l) (o : TOp) (hl : l.length ≤ 10000000000) (hk : o.k = 3) :
    Calls Try.prog 28 #[pairV tb rb, opV o] w fun e w' => e = .returned (.bool true) ∧ PPost B w tb mb v rb rv l w' := by
  have H := hid_mk h
  clear h hl
  obtain ⟨k, n, t, stop, snd⟩ := o
  dsimp only at hk ⊢
  subst hk
  have hst := stAt_new w tb rb 3 n t stop snd
  have HX1 := hid_mk hst.x
  have HST := hid_mk hst
  clear hst
  dsimp only [opV]
  go_enter Try.func28, Try.ntmps28
  go_wp2_with fail
  refine (same_any (B := B) (mb := mb) (v := v) (rv := rv) (l := l) ⟨(H.out.ext HX1.out).t, (H.out.ext HX1.out).d, H.out.ap⟩).mono ?_
  rintro e W2 ⟨rfl, hx2⟩
  have HX2 := hid_mk (Ext.trans _ _ _ HX1.out hx2)
  clear hx2
  go_wp2
  go_ret
  exact ⟨rfl, ppost_ext H.out HX2.out⟩
theorem step_at {B : Nat} {w : World} {tb mb : Nat} {v : Value} {rb : Nat} {rv : Value} {l : List Al} (h : Pr B w tb mb v rb rv l l) (o : TOp) (hl : l.length ≤ 10000000000) (hk : o.k = 2) :
    Calls Try.prog 28 #[pairV tb rb, opV o] w fun e w' => e = .returned (.bool true) ∧ PPost B w tb mb v rb rv l w' := by
  have HLEN := hid_mk hl
  have H := hid_mk h
  clear h hl
  obtain ⟨k, n, t, stop, snd⟩ := o
  dsimp only at hk ⊢
  subst hk
  have hst := stAt_new w tb rb 2 n t stop snd
  have HX1 := hid_mk hst.x
  have HST := hid_mk hst
  clear hst
  dsimp only [opV]
  go_enter Try.func28, Try.ntmps28
  go_wp2_with fail
  refine (tat_any (B := B) (mb := mb) (v := v) (l := l) (H.out.ext HX1.out).t n).mono ?_
  rintro e W2 ⟨rfl, hx2⟩
  have HX2 := hid_mk (Ext.trans _ _ _ HX1.out hx2)
  obtain ⟨-, -, p0, p1, o0, o1, o2, o3, o4, o5⟩ := HST.out
  have q0 := cell_ext hx2 p0
  have q1 := cell_ext hx2 p1
  have r1 := cell_ext hx2 o1
  have r2 := cell_ext hx2 o2
  have r3 := cell_ext hx2 o3
  clear hx2 p0 p1 o0 o1 o2 o3 o4 o5
  obtain ⟨g1, hg1⟩ : ∃ g, (atN n l).getD 0 = g := ⟨_, rfl⟩
  obtain ⟨g2, hg2⟩ : ∃ g, (atN n l).isSome = g := ⟨_, rfl⟩
  rw [hg1, hg2]
  go_wp2_with fail
  refine (rtat_any (B := B) (rb := rb) (v := rv) (l := l) (H.out.ext HX2.out).d n (by have := HLEN.out; omega)).mono ?_
  rintro e W3 ⟨rfl, hx3⟩
  have HX3 := hid_mk (Ext.trans _ _ _ HX2.out hx3)
  rw [hg1, hg2]
  clear hx3 q0 q1 r1 r2 r3
  go_wp2
  go_ret
  exact ⟨rfl, ppost_ext H.out HX3.out⟩
end Go.Proofs.Ytiimoaplhhnklaa
