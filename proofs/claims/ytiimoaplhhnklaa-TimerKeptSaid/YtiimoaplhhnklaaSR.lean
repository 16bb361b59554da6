/- Timers: one step of a pair, walked. -/
import Derived.Test.YtiimoaplhhnklaaSQ
namespace Go.Proofs.Ytiimoaplhhnklaa
open Go.RowKit
set_option maxHeartbeats 4000000
set_option maxRecDepth 100000
set_option linter.unusedSimpArgs false
set_option linter.unusedVariables false
attribute [-go_sem] Builtin.append_
attribute [local go_sem ↓] neq_nm eql_nm

/-- A pair and an op, boxed. -/
structure StAt (w W : World) (tb rb : Nat) (k : Int) (n : Nm) (t stop : Int) : Prop where
  x : Ext w W
  sz : w.heap.size + 2 ≤ W.heap.size
  p0 : W.cell? ⟨w.heap.size, 0, none⟩ = some (.pointer (some ⟨tb, 0, none⟩))
  p1 : W.cell? ⟨w.heap.size, 1, none⟩ = some (.pointer (some ⟨rb, 0, none⟩))
  o0 : W.cell? ⟨w.heap.size + 1, 0, none⟩ = some (.int .i64 k)
  o1 : W.cell? ⟨w.heap.size + 1, 1, none⟩ = some (.int .i64 n.1)
  o2 : W.cell? ⟨w.heap.size + 1, 2, none⟩ = some (.int .i64 n.2.1)
  o3 : W.cell? ⟨w.heap.size + 1, 3, none⟩ = some (.int .i64 n.2.2)
  o4 : W.cell? ⟨w.heap.size + 1, 4, none⟩ = some (.int .i64 t)
  o5 : W.cell? ⟨w.heap.size + 1, 5, none⟩ = some (.int .i64 stop)
theorem stAt_new (w : World) (tb rb : Nat) (k : Int) (n : Nm) (t stop : Int) (snd : Bool) : StAt w ((w.alloc (.cells #[.pointer (some ⟨tb, 0, none⟩), .pointer (some ⟨rb, 0, none⟩)] 65)).alloc (.cells #[.int .i64 k, .int .i64 n.1, .int .i64 n.2.1, .int .i64 n.2.2, .int .i64 t, .int .i64 stop, .bool snd] 68)) tb rb k n t stop :=
  ⟨by (repeat (first | exact Ext.refl _ | apply Ext.drew_left | apply Ext.drew | apply Ext.alloc)), by simp, by go_simp, by go_simp, by go_simp, by go_simp, by go_simp, by go_simp, by go_simp, by go_simp⟩
theorem Xl.hc {L : List Nat} {W w' : World} (hE : Xl L W w') : ∀ b o, b < W.heap.size → b ∉ L → w'.cell? ⟨b, o, none⟩ = W.cell? ⟨b, o, none⟩ := fun b o hb hn => hE.cell (k := b) (o := o) hb hn
theorem xl_hc {L : List Nat} {W w' : World} (hE : Xl L W.drew w') {b : Nat} (hb : b < W.heap.size) (hn : b ∉ L) : ∀ o, w'.cell? ⟨b, o, none⟩ = W.cell? ⟨b, o, none⟩ := fun o => hE.cell (k := b) (o := o) hb hn
theorem step_set {B : Nat} {w : World} {tb mb : Nat} {v : Value} {rb : Nat} {rv : Value} {l : List Al} (h : Pr B w tb mb v rb rv l l) (o : TOp) (hl : l.length ≤ 10000000000) (hk : o.k = 0) :
    Calls Try.prog 28 #[pairV tb rb, opV o] w fun e w' => e = .returned (.bool true) ∧ PPost B w tb mb v rb rv (setL o.n o.t l) w' := by
  have H := hid_mk h
  have HLEN := hid_mk hl
  have hlz := fun x hx => (h.fp_lt x hx).2
  obtain ⟨L, hL⟩ : ∃ L, fpP tb mb v rb rv = L := ⟨_, rfl⟩
  rw [hL] at hlz
  have hnp : w.heap.size ∉ L := fun h => by have := hlz _ h; omega
  have hno : w.heap.size + 1 ∉ L := fun h => by have := hlz _ h; omega
  have HL := hid_mk hL
  clear h hl hL hlz
  obtain ⟨k, n, t, stop, snd⟩ := o
  dsimp only at hk ⊢
  subst hk
  dsimp only [opV]
  go_enter Try.func28, Try.ntmps28
  go_wp2_with fail
  refine gen_code (fun W1 => StAt w W1 tb rb 0 n t stop) (stAt_new w tb rb 0 n t stop snd) ?_
  intro W1 hst
  have HX1 := hid_mk hst.x
  have hsz := hst.sz
  have hzp : w.heap.size < W1.heap.size := by omega
  have hzo : w.heap.size + 1 < W1.heap.size := by omega
  obtain ⟨-, -, p0, p1, o0, o1, o2, o3, o4, o5⟩ := hst
  refine wp_region_held_plan (Xl L) (fun _ => true) (.quiet 0 (.quiet 1 (.quiet 2 (.quiet 3 (.quiet 4 (.quiet 5 (.quiet 7 (.quiet 8 (.quiet 9 (.quiet 10 (.quiet 11 (.quiet 12 (.alt 6 (.alt 13 (.quiet 14 (.quiet 15 .done)) .stop) .stop))))))))))))) (by kernel_rfl) (by kernel_rfl) Xl.refl Xl.trans (by intro c a w d v h; cases d <;> exact h) (fun ops HO => ?_)
  refine plan_read _ (hi_of HO rfl) rfl (fun w' hE => by (repeat (with_reducible replace hE := Ext.unD hE)); have hcE := hE.hc; clear hE; go_simp; rfl) ?_
  simp only [Act.put, List.setIfInBounds_toArray, List.set_cons_succ, List.set_cons_zero]
  refine plan_read _ (hi_of HO rfl) rfl (fun w' hE => by have hcP := xl_hc hE hzp hnp; have hcO := xl_hc hE hzo hno; clear hE; go_simp; rfl) ?_
  simp only [Act.put, List.setIfInBounds_toArray, List.set_cons_succ, List.set_cons_zero]
  refine plan_read _ (hi_of HO rfl) rfl (fun w' hE => by (repeat (with_reducible replace hE := Ext.unD hE)); have hcE := hE.hc; clear hE; go_simp; rfl) ?_
  simp only [Act.put, List.setIfInBounds_toArray, List.set_cons_succ, List.set_cons_zero]
  refine plan_read _ (hi_of HO rfl) rfl (fun w' hE => by have hcP := xl_hc hE hzp hnp; have hcO := xl_hc hE hzo hno; clear hE; go_simp; rfl) ?_
  simp only [Act.put, List.setIfInBounds_toArray, List.set_cons_succ, List.set_cons_zero]
  refine plan_read _ (hi_of HO rfl) rfl (fun w' hE => by (repeat (with_reducible replace hE := Ext.unD hE)); have hcE := hE.hc; clear hE; go_simp; rfl) ?_
  simp only [Act.put, List.setIfInBounds_toArray, List.set_cons_succ, List.set_cons_zero]
  refine plan_read _ (hi_of HO rfl) rfl (fun w' hE => by have hcP := xl_hc hE hzp hnp; have hcO := xl_hc hE hzo hno; clear hE; go_simp; rfl) ?_
  simp only [Act.put, List.setIfInBounds_toArray, List.set_cons_succ, List.set_cons_zero]
  refine plan_read _ (hi_of HO rfl) rfl (fun w' hE => by (repeat (with_reducible replace hE := Ext.unD hE)); have hcE := hE.hc; clear hE; go_simp; rfl) ?_
  simp only [Act.put, List.setIfInBounds_toArray, List.set_cons_succ, List.set_cons_zero]
  refine plan_read _ (hi_of HO rfl) rfl (fun w' hE => by have hcP := xl_hc hE hzp hnp; have hcO := xl_hc hE hzo hno; clear hE; go_simp; rfl) ?_
  simp only [Act.put, List.setIfInBounds_toArray, List.set_cons_succ, List.set_cons_zero]
  refine plan_read _ (hi_of HO rfl) rfl (fun w' hE => by (repeat (with_reducible replace hE := Ext.unD hE)); have hcE := hE.hc; clear hE; go_simp; rfl) ?_
  simp only [Act.put, List.setIfInBounds_toArray, List.set_cons_succ, List.set_cons_zero]
  refine plan_read _ (hi_of HO rfl) rfl (fun w' hE => by have hcP := xl_hc hE hzp hnp; have hcO := xl_hc hE hzo hno; clear hE; go_simp; rfl) ?_
  simp only [Act.put, List.setIfInBounds_toArray, List.set_cons_succ, List.set_cons_zero]
  refine plan_read _ (hi_of HO rfl) rfl (fun w' hE => by (repeat (with_reducible replace hE := Ext.unD hE)); have hcE := hE.hc; clear hE; go_simp; rfl) ?_
  simp only [Act.put, List.setIfInBounds_toArray, List.set_cons_succ, List.set_cons_zero]
  refine plan_read _ (hi_of HO rfl) rfl (fun w' hE => by have hcP := xl_hc hE hzp hnp; have hcO := xl_hc hE hzo hno; clear hE; go_simp; rfl) ?_
  simp only [Act.put, List.setIfInBounds_toArray, List.set_cons_succ, List.set_cons_zero]
  refine plan_call1 en_TmSet (hi_of HO rfl) rfl rfl (by go_simp; rfl) (by exact tset_any (H.out.ext (Ext.drew HX1.out)).t n t (by have := HLEN.out; omega)) ?_
  rintro e v6 ⟨rfl, hp6⟩
  obtain ⟨v1, hq6, hq6x, hq6f⟩ := Pr.wt (H.out.ext (Ext.drew HX1.out)) hp6
  have HQ6 := hid_mk (And.intro hq6 (And.intro hq6x hq6f))
  clear hp6 hq6 hq6x hq6f
  obtain ⟨ec, hec⟩ : ∃ ec : Int, (if badT t = true then 1 else 0) = ec := ⟨_, rfl⟩
  have HEC := hid_mk hec
  rw [hec]
  clear hec
  refine ⟨_, rfl, (fun _ => by rw [← HL.out]; exact HQ6.out.2.1), ?_⟩
  simp only [Act.put, List.setIfInBounds_toArray, List.set_cons_succ, List.set_cons_zero]
  refine plan_call1 en_rTmSet (hi_of HO rfl) rfl rfl (by go_simp; rfl) (by exact rset_any HQ6.out.1.d H.out.t.ok n t (by have := HLEN.out; omega)) ?_
  rintro e v13 ⟨rfl, hp13⟩
  have HXR := hid_mk (show Xl L v6 v13 by
  obtain ⟨_, _, h2, _⟩ := hp13
  exact h2.mono' (fun k hk => by simp at hk; subst hk; rw [← HL.out]; simp [fpP, fpR]))
  obtain ⟨rv1, hq13, hq13x, hq13f⟩ := Pr.wd HQ6.out.1 hp13
  have HP := hid_mk (ppost_both (Ext.drew HX1.out) ⟨HQ6.out.2.1, HQ6.out.2.2⟩ H.out _ ⟨hq13, hq13x, hq13f⟩)
  clear hp13 hq13 hq13x hq13f
  rw [HEC.out]
  refine ⟨_, rfl, (fun _ => HXR.out), ?_⟩
  simp only [Act.put, List.setIfInBounds_toArray, List.set_cons_succ, List.set_cons_zero]
  refine plan_read _ (hi_of HO rfl) rfl (fun w' hE => by (repeat (with_reducible replace hE := Ext.unD hE)); have hcE := hE.hc; clear hE; go_simp; rfl) ?_
  simp only [Act.put, List.setIfInBounds_toArray, List.set_cons_succ, List.set_cons_zero]
  refine plan_read _ (hi_of HO rfl) rfl (fun w' hE => by (repeat (with_reducible replace hE := Ext.unD hE)); have hcE := hE.hc; clear hE; go_simp; rfl) ?_
  simp only [Act.put, List.setIfInBounds_toArray, List.set_cons_succ, List.set_cons_zero]
  refine plan_done ?fin101
  go_wp2
  go_ret
  exact ⟨rfl, HP.out⟩
end Go.Proofs.Ytiimoaplhhnklaa
