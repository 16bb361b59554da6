/- A node with a row over two trees. (One of three instances.) -/
import Derived.Test.YtgglbohcnlcagaaTB1
namespace Go.Proofs.Ytgglbohcnlcagaa
open Go.RowKit
set_option maxHeartbeats 8000000
set_option maxRecDepth 100000
set_option linter.unusedSimpArgs false
set_option linter.unusedVariables false
theorem en_Tover1 : Enters Try.prog 120 := ⟨_, Try.func120, by kernel_rfl, rfl⟩

theorem over1_any {Sp : Option Nat} {K : Nat → World → Prop} {g : S1 → Nat} {M : Nat} {J : S1 → S1 → S1} {f : FuncId} {caps : Array Value} {z : S1} (hJ : JoinOK Try.prog encS1 Sp K g M J f caps)
    {tb xb n : Nat} {zz : S1} {rv : Value} {k : ByteArray} {v : V1} {s : S1} {l r : T1} {pl pr : Value} {w : World}
    (ht : TreeAt1 w tb zz (.func (.func f) #[] caps) rv) (htn : Sp ≠ some tb) (hx : RowAt1 w xb k v s) (hxn : Sp ≠ some xb)
    (hl : IsTree1 Sp J z w pl l) (hr : IsTree1 Sp J z w pr r) (hk : K n w) (hsz : (Tr.node l k v s r).size ≤ 4611686018427387904) (hwt : (Tr.node l k v s r).wt g ≤ M) :
    Calls Try.prog 120 #[.pointer (some ⟨tb, 0, none⟩), .pointer (some ⟨xb, 0, none⟩), pl, pr] w (Made1 Sp J z K n 2 (.node l k v s r) w) := by
  obtain ⟨N, hN⟩ : ∃ N, N = (Tr.node l k v s r).size := ⟨_, rfl⟩
  obtain ⟨H, hH⟩ : ∃ H, H = (Tr.node l k v s r).high := ⟨_, rfl⟩
  have e1 : IntKind.i64.wrap ((l.size : Int) + 1) = (l.size : Int) + 1 := by rw [IntKind.wrap_i64]; simp only [Tr.size] at hsz; omega
  have e2 : IntKind.i64.wrap ((l.size : Int) + 1 + (r.size : Int)) = (N : Int) := by rw [IntKind.wrap_i64, hN]; simp only [Tr.size] at hsz ⊢; omega
  obtain ⟨mx, hmx⟩ : ∃ mx : Int, (if l.high < r.high then (r.high : Int) else (l.high : Int)) = mx := ⟨_, rfl⟩
  have e3 : IntKind.i64.wrap (1 + mx) = (H : Int) := by
    have := Tr.high_le l; have := Tr.high_le r
    rw [IntKind.wrap_i64, hH, ← hmx]; simp only [Tr.size, Tr.high] at hsz ⊢; split <;> omega
  have HNH := hid_mk (And.intro hN hH)
  have HL := hid_mk hl
  have HR := hid_mk hr
  have HK := hid_mk hk
  have HT := hid_mk ht
  have HWl := hid_mk (fun h => Tr.wt_sum (z := z) hJ.wtJ l h)
  have HWr := hid_mk (fun h => Tr.wt_sum (z := z) hJ.wtJ r h)
  have HWT := hid_mk (show l.wt g + g s + r.wt g ≤ M from hwt)
  obtain ⟨x0, x1, x2, x3⟩ := hx
  have hxlt := cell_lt x0
  obtain ⟨pa, rfl, hpa⟩ := HL.out.ptr
  obtain ⟨pb, rfl, hpb⟩ := HR.out.ptr
  clear ht hl hr hk hsz hN hH hwt
  have HPA := hid_mk hpa
  have HPB := hid_mk hpb
  clear hpa hpb
  go_enter Try.func120, Try.ntmps120
  go_wp2_with fail
  refine wp_region_held_below (fun _ => true) (.quiet 0 (.quiet 1 (.quiet 2 (.quiet 3 (.quiet 4 (.quiet 5 (.quiet 6 (.quiet 7 (.quiet 8 (.quiet 9 (.quiet 10 (.quiet 11 (.quiet 12 (.quiet 13 (.quiet 14 (.quiet 15 (.quiet 16 (.quiet 17 (.quiet 18 (.quiet 19 (.quiet 20 (.quiet 21 (.quiet 22 (.quiet 23 (.quiet 24 (.quiet 25 (.quiet 26 (.quiet 27 (.quiet 28 (.quiet 29 (.quiet 30 (.alt 31 (.quiet 32 .done) .stop)))))))))))))))))))))))))))))))) (by kernel_rfl) (by kernel_rfl) (by intro c a w d v h; cases d <;> exact h) (fun ops HO => ?_)
  refine plan_read _ (hi_of HO rfl) rfl (fun w' hE => by (repeat (with_reducible replace hE := Ext.unD hE)); have hcE := hE.hc; clear hE; go_simp; rfl) ?_
  simp only [Act.put, List.setIfInBounds_toArray, List.set_cons_succ, List.set_cons_zero]
  refine plan_read _ (hi_of HO rfl) rfl (fun w' hE => by (repeat (with_reducible replace hE := Ext.unD hE)); have hcE := hE.hc; clear hE; go_simp; rfl) ?_
  simp only [Act.put, List.setIfInBounds_toArray, List.set_cons_succ, List.set_cons_zero]
  refine plan_read _ (hi_of HO rfl) rfl (fun w' hE => by (repeat (with_reducible replace hE := Ext.unD hE)); have hcE := hE.hc; clear hE; go_simp; rfl) ?_
  simp only [Act.put, List.setIfInBounds_toArray, List.set_cons_succ, List.set_cons_zero]
  refine plan_read _ (hi_of HO rfl) rfl (fun w' hE => by (repeat (with_reducible replace hE := Ext.unD hE)); have hcE := hE.hc; clear hE; go_simp; rfl) ?_
  simp only [Act.put, List.setIfInBounds_toArray, List.set_cons_succ, List.set_cons_zero]
  refine plan_read _ (hi_of HO rfl) rfl (fun w' hE => by (repeat (with_reducible replace hE := Ext.unD hE)); have hcE := hE.hc; clear hE; go_simp; rfl) ?_
  simp only [Act.put, List.setIfInBounds_toArray, List.set_cons_succ, List.set_cons_zero]
  refine plan_read _ (hi_of HO rfl) rfl (fun w' hE => by (repeat (with_reducible replace hE := Ext.unD hE)); have hcE := hE.hc; clear hE; go_simp; rfl) ?_
  simp only [Act.put, List.setIfInBounds_toArray, List.set_cons_succ, List.set_cons_zero]
  refine plan_read _ (hi_of HO rfl) rfl (fun w' hE => by (repeat (with_reducible replace hE := Ext.unD hE)); have hcE := hE.hc; clear hE; go_simp; rfl) ?_
  simp only [Act.put, List.setIfInBounds_toArray, List.set_cons_succ, List.set_cons_zero]
  refine plan_read _ (hi_of HO rfl) rfl (fun w' hE => by (repeat (with_reducible replace hE := Ext.unD hE)); have hcE := hE.hc; clear hE; go_simp; rfl) ?_
  simp only [Act.put, List.setIfInBounds_toArray, List.set_cons_succ, List.set_cons_zero]
  refine plan_read _ (hi_of HO rfl) rfl (fun w' hE => by (repeat (with_reducible replace hE := Ext.unD hE)); have hcE := hE.hc; clear hE; go_simp; rfl) ?_
  simp only [Act.put, List.setIfInBounds_toArray, List.set_cons_succ, List.set_cons_zero]
  refine plan_read _ (hi_of HO rfl) rfl (fun w' hE => by (repeat (with_reducible replace hE := Ext.unD hE)); have hcE := hE.hc; clear hE; go_simp; rfl) ?_
  simp only [Act.put, List.setIfInBounds_toArray, List.set_cons_succ, List.set_cons_zero]
  refine plan_read _ (hi_of HO rfl) rfl (fun w' hE => by (repeat (with_reducible replace hE := Ext.unD hE)); have hcE := hE.hc; clear hE; go_simp; rfl) ?_
  simp only [Act.put, List.setIfInBounds_toArray, List.set_cons_succ, List.set_cons_zero]
  refine plan_read _ (hi_of HO rfl) rfl (fun w' hE => by (repeat (with_reducible replace hE := Ext.unD hE)); have hcE := hE.hc; clear hE; go_simp; rfl) ?_
  simp only [Act.put, List.setIfInBounds_toArray, List.set_cons_succ, List.set_cons_zero]
  refine plan_read _ (hi_of HO rfl) rfl (fun w' hE => by (repeat (with_reducible replace hE := Ext.unD hE)); have hcE := hE.hc; clear hE; go_simp; rfl) ?_
  simp only [Act.put, List.setIfInBounds_toArray, List.set_cons_succ, List.set_cons_zero]
  refine plan_read _ (hi_of HO rfl) rfl (fun w' hE => by (repeat (with_reducible replace hE := Ext.unD hE)); have hcE := hE.hc; clear hE; go_simp; rfl) ?_
  simp only [Act.put, List.setIfInBounds_toArray, List.set_cons_succ, List.set_cons_zero]
  refine plan_read _ (hi_of HO rfl) rfl (fun w' hE => by (repeat (with_reducible replace hE := Ext.unD hE)); have hcE := hE.hc; clear hE; go_simp; rfl) ?_
  simp only [Act.put, List.setIfInBounds_toArray, List.set_cons_succ, List.set_cons_zero]
  refine plan_read _ (hi_of HO rfl) rfl (fun w' hE => by (repeat (with_reducible replace hE := Ext.unD hE)); have hcE := hE.hc; clear hE; go_simp; rfl) ?_
  simp only [Act.put, List.setIfInBounds_toArray, List.set_cons_succ, List.set_cons_zero]
  refine plan_read _ (hi_of HO rfl) rfl (fun w' hE => by (repeat (with_reducible replace hE := Ext.unD hE)); have hcE := hE.hc; clear hE; go_simp; rfl) ?_
  simp only [Act.put, List.setIfInBounds_toArray, List.set_cons_succ, List.set_cons_zero]
  refine plan_read _ (hi_of HO rfl) rfl (fun w' hE => by (repeat (with_reducible replace hE := Ext.unD hE)); have hcE := hE.hc; clear hE; go_simp; rfl) ?_
  simp only [Act.put, List.setIfInBounds_toArray, List.set_cons_succ, List.set_cons_zero]
  refine plan_read _ (hi_of HO rfl) rfl (fun w' hE => by (repeat (with_reducible replace hE := Ext.unD hE)); have hcE := hE.hc; clear hE; go_simp; rfl) ?_
  simp only [Act.put, List.setIfInBounds_toArray, List.set_cons_succ, List.set_cons_zero]
  refine plan_pure _ en_Tmany1 (hi_of HO rfl) rfl rfl (by go_simp; rfl) (fun w' hE => by exact many1_any (HL.out.xt (Xt.of (Ext.unD hE)))) ?_
  simp only [Act.put, List.setIfInBounds_toArray, List.set_cons_succ, List.set_cons_zero]
  refine plan_read _ (hi_of HO rfl) rfl (fun w' hE => by (repeat (with_reducible replace hE := Ext.unD hE)); have hcE := hE.hc; clear hE; go_simp; rfl) ?_
  simp only [Act.put, List.setIfInBounds_toArray, List.set_cons_succ, List.set_cons_zero]
  refine plan_read _ (hi_of HO rfl) rfl (fun w' hE => by (repeat (with_reducible replace hE := Ext.unD hE)); have hcE := hE.hc; clear hE; go_simp; rfl) ?_
  simp only [Act.put, List.setIfInBounds_toArray, List.set_cons_succ, List.set_cons_zero]
  refine plan_pure _ en_Tmany1 (hi_of HO rfl) rfl rfl (by go_simp; rfl) (fun w' hE => by exact many1_any (HR.out.xt (Xt.of (Ext.unD hE)))) ?_
  simp only [Act.put, List.setIfInBounds_toArray, List.set_cons_succ, List.set_cons_zero]
  refine plan_read _ (hi_of HO rfl) rfl (fun w' hE => by (repeat (with_reducible replace hE := Ext.unD hE)); have hcE := hE.hc; clear hE; go_simp; rfl) ?_
  simp only [Act.put, List.setIfInBounds_toArray, List.set_cons_succ, List.set_cons_zero]
  refine plan_read _ (hi_of HO rfl) rfl (fun w' hE => by (repeat (with_reducible replace hE := Ext.unD hE)); have hcE := hE.hc; clear hE; go_simp; rfl) ?_
  simp only [Act.put, List.setIfInBounds_toArray, List.set_cons_succ, List.set_cons_zero]
  refine plan_pure _ en_Thigh1 (hi_of HO rfl) rfl rfl (by go_simp; rfl) (fun w' hE => by exact high1_any (HL.out.xt (Xt.of (Ext.unD hE)))) ?_
  simp only [Act.put, List.setIfInBounds_toArray, List.set_cons_succ, List.set_cons_zero]
  refine plan_read _ (hi_of HO rfl) rfl (fun w' hE => by (repeat (with_reducible replace hE := Ext.unD hE)); have hcE := hE.hc; clear hE; go_simp; rfl) ?_
  simp only [Act.put, List.setIfInBounds_toArray, List.set_cons_succ, List.set_cons_zero]
  refine plan_pure _ en_Thigh1 (hi_of HO rfl) rfl rfl (by go_simp; rfl) (fun w' hE => by exact high1_any (HR.out.xt (Xt.of (Ext.unD hE)))) ?_
  simp only [Act.put, List.setIfInBounds_toArray, List.set_cons_succ, List.set_cons_zero]
  refine plan_read _ (hi_of HO rfl) rfl (fun w' hE => by (repeat (with_reducible replace hE := Ext.unD hE)); have hcE := hE.hc; clear hE; go_simp; rfl) ?_
  simp only [Act.put, List.setIfInBounds_toArray, List.set_cons_succ, List.set_cons_zero]
  refine plan_read _ (hi_of HO rfl) rfl (fun w' hE => by (repeat (with_reducible replace hE := Ext.unD hE)); have hcE := hE.hc; clear hE; go_simp; rfl) ?_
  simp only [Act.put, List.setIfInBounds_toArray, List.set_cons_succ, List.set_cons_zero]
  refine plan_read _ (hi_of HO rfl) rfl (fun w' hE => by (repeat (with_reducible replace hE := Ext.unD hE)); have hcE := hE.hc; clear hE; go_simp; rfl) ?_
  simp only [Act.put, List.setIfInBounds_toArray, List.set_cons_succ, List.set_cons_zero]
  refine plan_loud1 (hi_of HO rfl) rfl ?_
  go_simp
  refine ⟨by (repeat (first | exact Ext.refl _ | apply Ext.drew_left | apply Ext.drew | apply Ext.alloc)), ?_⟩
  refine plan_read _ (hi_of HO rfl) rfl (fun w' hE => by (repeat (with_reducible replace hE := Ext.unD hE)); have hcE := hE.hc; clear hE; go_simp; rfl) ?_
  simp only [Act.put, List.setIfInBounds_toArray, List.set_cons_succ, List.set_cons_zero]
  refine plan_done ?fin101
  have hfr : Sp ≠ some w.heap.size := hJ.fresh HK.out _ (Nat.le_refl _)
  refine gen_world (P := Try.prog) (fun W => Fresh1 W w.heap.size k v s s (.pointer pa) (.pointer pb) N H ∧ Ext w W) ⟨⟨⟨by go_simp, by go_simp, by go_simp, by go_simp, by go_simp, by go_simp, by go_simp, by go_simp, by go_simp, by go_simp⟩, by go_simp, by go_simp⟩, by (repeat (first | exact Ext.refl _ | apply Ext.drew_left | apply Ext.drew | apply Ext.alloc))⟩ ?_
  rintro W ⟨hF, hX⟩
  clear x0 x1 x2 x3 hxlt e1 e2 e3 hmx HO
  have HF := hid_mk hF
  have HX := hid_mk (Xt.of (S := Sp) hX)
  replace HK := hid_mk (hJ.kext HK.out hX)
  clear hF hX
  generalize hnb : w.heap.size = nb at *
  have HNB := hid_mk (Nat.le_of_eq hnb)
  clear hnb
  cases l with
  | nil =>
    obtain rfl : pa = none := by simpa [Tr.isNil] using HPA.out
    cases r with
    | nil =>
      obtain rfl : pb = none := by simpa [Tr.isNil] using HPB.out
      have hse : (Tr.node Tr.nil k v s Tr.nil).sum J z = s := by rfl
      go_wp2
      go_ret
      have e := HNH.out
      have hfn := HF.out.at_
      rw [e.1, e.2] at hfn
      exact ⟨_, 0, rfl, ⟨_, _, _, rfl, hfr, (by rw [hse]; exact hfn), HL.out.xt HX.out, HR.out.xt HX.out⟩, HX.out, HK.out, by omega⟩
    | node rl rk rvv rs rr =>
      generalize hsr : (Tr.node rl rk rvv rs rr).sum J z = sr at *
      have HWB := hid_mk (show g (s) + g sr ≤ M by have := HWr.out rfl; have := HWT.out; omega)
      obtain ⟨lb2, p1, p2, e, hlbn2, hLN, hL1, hL2⟩ := HR.out
      obtain rfl : pb = some ⟨lb2, 0, none⟩ := by simpa using e
      rw [hsr] at hLN
      have hse : (Tr.node Tr.nil k v s (Tr.node rl rk rvv rs rr)).sum J z = J (s) sr := by rw [← hsr]; rfl
      obtain ⟨-, -, -, -, l4, l5, -, -, -, -⟩ := hLN.xt HX.out hlbn2
      obtain ⟨-, -, t2, -⟩ := HT.out.xt HX.out htn
      obtain ⟨-, -, -, -, n4, n5, -, -, -, -⟩ := HF.out.at_
      have hlblt := cell_lt l4
      have htblt := cell_lt t2
      have hnblt := cell_lt n4
      clear hsr hL1 hL2 e
      replace hse := hid_mk hse
      go_wp2_with fail
      refine wp_region_held_plan (Xt Sp) (fun i => i != 16) (.quiet 0 (.quiet 1 (.quiet 2 (.quiet 3 (.quiet 4 (.quiet 5 (.quiet 6 (.quiet 7 (.quiet 8 (.quiet 9 (.quiet 10 (.quiet 11 (.quiet 12 (.alt 13 (.alt 14 (.quiet 15 (.alt 16 .done .stop)) .stop) .stop)))))))))))))) (by kernel_rfl) (by kernel_rfl) Xt.refl Xt.trans (by intro c a w d v h; cases d <;> exact h) (fun ops HO => ?_)
      refine plan_read _ (hi_of HO rfl) rfl (fun w' hE => by (repeat (with_reducible replace hE := Xt.unD hE)); have hcE := hE.hc; clear hE; go_simp; rfl) ?_
      simp only [Act.put, List.setIfInBounds_toArray, List.set_cons_succ, List.set_cons_zero]
      refine plan_read _ (hi_of HO rfl) rfl (fun w' hE => by (repeat (with_reducible replace hE := Xt.unD hE)); have hcE := hE.hc; clear hE; go_simp; rfl) ?_
      simp only [Act.put, List.setIfInBounds_toArray, List.set_cons_succ, List.set_cons_zero]
      refine plan_read _ (hi_of HO rfl) rfl (fun w' hE => by (repeat (with_reducible replace hE := Xt.unD hE)); have hcE := hE.hc; clear hE; go_simp; rfl) ?_
      simp only [Act.put, List.setIfInBounds_toArray, List.set_cons_succ, List.set_cons_zero]
      refine plan_read _ (hi_of HO rfl) rfl (fun w' hE => by (repeat (with_reducible replace hE := Xt.unD hE)); have hcE := hE.hc; clear hE; go_simp; rfl) ?_
      simp only [Act.put, List.setIfInBounds_toArray, List.set_cons_succ, List.set_cons_zero]
      refine plan_read _ (hi_of HO rfl) rfl (fun w' hE => by (repeat (with_reducible replace hE := Xt.unD hE)); have hcE := hE.hc; clear hE; go_simp; rfl) ?_
      simp only [Act.put, List.setIfInBounds_toArray, List.set_cons_succ, List.set_cons_zero]
      refine plan_read _ (hi_of HO rfl) rfl (fun w' hE => by (repeat (with_reducible replace hE := Xt.unD hE)); have hcE := hE.hc; clear hE; go_simp; rfl) ?_
      simp only [Act.put, List.setIfInBounds_toArray, List.set_cons_succ, List.set_cons_zero]
      refine plan_read _ (hi_of HO rfl) rfl (fun w' hE => by (repeat (with_reducible replace hE := Xt.unD hE)); have hcE := hE.hc; clear hE; go_simp; rfl) ?_
      simp only [Act.put, List.setIfInBounds_toArray, List.set_cons_succ, List.set_cons_zero]
      refine plan_read _ (hi_of HO rfl) rfl (fun w' hE => by (repeat (with_reducible replace hE := Xt.unD hE)); have hcE := hE.hc; clear hE; go_simp; rfl) ?_
      simp only [Act.put, List.setIfInBounds_toArray, List.set_cons_succ, List.set_cons_zero]
      refine plan_read _ (hi_of HO rfl) rfl (fun w' hE => by (repeat (with_reducible replace hE := Xt.unD hE)); have hcE := hE.hc; clear hE; go_simp; rfl) ?_
      simp only [Act.put, List.setIfInBounds_toArray, List.set_cons_succ, List.set_cons_zero]
      refine plan_read _ (hi_of HO rfl) rfl (fun w' hE => by (repeat (with_reducible replace hE := Xt.unD hE)); have hcE := hE.hc; clear hE; go_simp; rfl) ?_
      simp only [Act.put, List.setIfInBounds_toArray, List.set_cons_succ, List.set_cons_zero]
      refine plan_read _ (hi_of HO rfl) rfl (fun w' hE => by (repeat (with_reducible replace hE := Xt.unD hE)); have hcE := hE.hc; clear hE; go_simp; rfl) ?_
      simp only [Act.put, List.setIfInBounds_toArray, List.set_cons_succ, List.set_cons_zero]
      refine plan_read _ (hi_of HO rfl) rfl (fun w' hE => by (repeat (with_reducible replace hE := Xt.unD hE)); have hcE := hE.hc; clear hE; go_simp; rfl) ?_
      simp only [Act.put, List.setIfInBounds_toArray, List.set_cons_succ, List.set_cons_zero]
      refine plan_read _ (hi_of HO rfl) rfl (fun w' hE => by (repeat (with_reducible replace hE := Xt.unD hE)); have hcE := hE.hc; clear hE; go_simp; rfl) ?_
      simp only [Act.put, List.setIfInBounds_toArray, List.set_cons_succ, List.set_cons_zero]
      refine plan_callv1 hJ.enters (hi_of HO rfl) rfl rfl (by go_simp; rfl) (by go_simp; rfl) (by exact (hJ.call (s) sr _ _ (hJ.kext HK.out (by (repeat (first | exact Ext.refl _ | apply Ext.drew_left | apply Ext.drew | apply Ext.alloc)))) HWB.out)) ?_
      rintro e v9 ⟨rfl, hx9, hk9⟩
      refine ⟨_, rfl, fun _ => hx9, ?_⟩
      replace hx9 := Xt.unD hx9
      have HF9 := hid_mk (HF.out.xt hx9 hfr)
      have HX9 := hid_mk (Xt.trans _ _ _ HX.out hx9)
      have HK9 := hid_mk hk9
      have hz0 := HF9.out.f0
      have hz1 := HF9.out.f1
      have y5 := HF9.out.at_.c5
      have y4 := HF9.out.at_.c4
      have hnb9 := cell_lt HF9.out.at_.c0
      clear hx9 hk9
      simp only [Act.put, List.setIfInBounds_toArray, List.set_cons_succ, List.set_cons_zero]
      refine plan_loud1 (hi_of HO rfl) rfl ?_
      go_simp
      refine ⟨by (repeat (first | exact Xt.refl _ | apply Xt.drew_left | apply Xt.drew | apply Xt.alloc)), ?_⟩
      refine plan_read _ (hi_of HO rfl) rfl (fun w' hE => by (repeat (with_reducible replace hE := Xt.unD hE)); have hcE := hE.hc; clear hE; go_simp; rfl) ?_
      simp only [Act.put, List.setIfInBounds_toArray, List.set_cons_succ, List.set_cons_zero]
      refine plan_loud1 (hi_of HO rfl) rfl ?_
      go_simp
      skip
      refine plan_done ?fin102
      clear HO
      refine gen_world (P := Try.prog) (fun W' => Fresh1 W' nb k v s (J (s) sr) (.pointer none) (.pointer (some ⟨lb2, 0, none⟩)) N H ∧ Xt Sp w W' ∧ K ((n + 0) + 1) W') ⟨HF9.out.set, HX9.out|>.set HNB.out |>.set HNB.out, hJ.kset (hJ.kset HK9.out hfr) hfr⟩ ?_
      clear HF9 HX9 HK9 hz0 hnb9 HK HF HX
      clear hz1 y4 y5 t2 n4 n5 hlblt htblt hnblt l4 l5
      clear W
      rintro W ⟨hF, hX, hk⟩
      have HF := hid_mk hF
      have HX := hid_mk hX
      have HK := hid_mk hk
      clear hF hX hk
      replace hse := hse.out
      go_wp2
      go_ret
      have e := HNH.out
      have hfn := HF.out.at_
      rw [e.1, e.2] at hfn
      exact ⟨_, 0 + 1, rfl, ⟨_, _, _, rfl, hfr, (by rw [hse]; exact hfn), HL.out.xt HX.out, HR.out.xt HX.out⟩, HX.out, HK.out, by omega⟩
  | node ll lk lv ls lr =>
    generalize hsm : (Tr.node ll lk lv ls lr).sum J z = sl at *
    have HWA := hid_mk (show g sl + g s ≤ M by have := HWl.out rfl; have := HWT.out; omega)
    obtain ⟨lb, p1, p2, e, hlbn, hLN, hL1, hL2⟩ := HL.out
    obtain rfl : pa = some ⟨lb, 0, none⟩ := by simpa using e
    rw [hsm] at hLN
    have HSM := hid_mk hsm
    obtain ⟨-, -, -, -, l4, l5, -, -, -, -⟩ := hLN.xt HX.out hlbn
    obtain ⟨-, -, t2, -⟩ := HT.out.xt HX.out htn
    obtain ⟨-, -, -, -, n4, n5, -, -, -, -⟩ := HF.out.at_
    have hlblt := cell_lt l4
    have htblt := cell_lt t2
    have hnblt := cell_lt n4
    clear hsm hL1 hL2 e
    go_wp2_with fail
    refine wp_region_held_plan (Xt Sp) (fun i => i != 16) (.quiet 0 (.quiet 1 (.quiet 2 (.quiet 3 (.quiet 4 (.quiet 5 (.quiet 6 (.quiet 7 (.quiet 8 (.quiet 9 (.quiet 10 (.quiet 11 (.quiet 12 (.alt 13 (.alt 14 (.quiet 15 (.alt 16 .done .stop)) .stop) .stop)))))))))))))) (by kernel_rfl) (by kernel_rfl) Xt.refl Xt.trans (by intro c a w d v h; cases d <;> exact h) (fun ops HO => ?_)
    refine plan_read _ (hi_of HO rfl) rfl (fun w' hE => by (repeat (with_reducible replace hE := Xt.unD hE)); have hcE := hE.hc; clear hE; go_simp; rfl) ?_
    simp only [Act.put, List.setIfInBounds_toArray, List.set_cons_succ, List.set_cons_zero]
    refine plan_read _ (hi_of HO rfl) rfl (fun w' hE => by (repeat (with_reducible replace hE := Xt.unD hE)); have hcE := hE.hc; clear hE; go_simp; rfl) ?_
    simp only [Act.put, List.setIfInBounds_toArray, List.set_cons_succ, List.set_cons_zero]
    refine plan_read _ (hi_of HO rfl) rfl (fun w' hE => by (repeat (with_reducible replace hE := Xt.unD hE)); have hcE := hE.hc; clear hE; go_simp; rfl) ?_
    simp only [Act.put, List.setIfInBounds_toArray, List.set_cons_succ, List.set_cons_zero]
    refine plan_read _ (hi_of HO rfl) rfl (fun w' hE => by (repeat (with_reducible replace hE := Xt.unD hE)); have hcE := hE.hc; clear hE; go_simp; rfl) ?_
    simp only [Act.put, List.setIfInBounds_toArray, List.set_cons_succ, List.set_cons_zero]
    refine plan_read _ (hi_of HO rfl) rfl (fun w' hE => by (repeat (with_reducible replace hE := Xt.unD hE)); have hcE := hE.hc; clear hE; go_simp; rfl) ?_
    simp only [Act.put, List.setIfInBounds_toArray, List.set_cons_succ, List.set_cons_zero]
    refine plan_read _ (hi_of HO rfl) rfl (fun w' hE => by (repeat (with_reducible replace hE := Xt.unD hE)); have hcE := hE.hc; clear hE; go_simp; rfl) ?_
    simp only [Act.put, List.setIfInBounds_toArray, List.set_cons_succ, List.set_cons_zero]
    refine plan_read _ (hi_of HO rfl) rfl (fun w' hE => by (repeat (with_reducible replace hE := Xt.unD hE)); have hcE := hE.hc; clear hE; go_simp; rfl) ?_
    simp only [Act.put, List.setIfInBounds_toArray, List.set_cons_succ, List.set_cons_zero]
    refine plan_read _ (hi_of HO rfl) rfl (fun w' hE => by (repeat (with_reducible replace hE := Xt.unD hE)); have hcE := hE.hc; clear hE; go_simp; rfl) ?_
    simp only [Act.put, List.setIfInBounds_toArray, List.set_cons_succ, List.set_cons_zero]
    refine plan_read _ (hi_of HO rfl) rfl (fun w' hE => by (repeat (with_reducible replace hE := Xt.unD hE)); have hcE := hE.hc; clear hE; go_simp; rfl) ?_
    simp only [Act.put, List.setIfInBounds_toArray, List.set_cons_succ, List.set_cons_zero]
    refine plan_read _ (hi_of HO rfl) rfl (fun w' hE => by (repeat (with_reducible replace hE := Xt.unD hE)); have hcE := hE.hc; clear hE; go_simp; rfl) ?_
    simp only [Act.put, List.setIfInBounds_toArray, List.set_cons_succ, List.set_cons_zero]
    refine plan_read _ (hi_of HO rfl) rfl (fun w' hE => by (repeat (with_reducible replace hE := Xt.unD hE)); have hcE := hE.hc; clear hE; go_simp; rfl) ?_
    simp only [Act.put, List.setIfInBounds_toArray, List.set_cons_succ, List.set_cons_zero]
    refine plan_read _ (hi_of HO rfl) rfl (fun w' hE => by (repeat (with_reducible replace hE := Xt.unD hE)); have hcE := hE.hc; clear hE; go_simp; rfl) ?_
    simp only [Act.put, List.setIfInBounds_toArray, List.set_cons_succ, List.set_cons_zero]
    refine plan_read _ (hi_of HO rfl) rfl (fun w' hE => by (repeat (with_reducible replace hE := Xt.unD hE)); have hcE := hE.hc; clear hE; go_simp; rfl) ?_
    simp only [Act.put, List.setIfInBounds_toArray, List.set_cons_succ, List.set_cons_zero]
    refine plan_callv1 hJ.enters (hi_of HO rfl) rfl rfl (by go_simp; rfl) (by go_simp; rfl) (by exact (hJ.call sl s _ _ (hJ.kext HK.out (by (repeat (first | exact Ext.refl _ | apply Ext.drew_left | apply Ext.drew | apply Ext.alloc)))) HWA.out)) ?_
    rintro e v9 ⟨rfl, hx9, hk9⟩
    refine ⟨_, rfl, fun _ => hx9, ?_⟩
    replace hx9 := Xt.unD hx9
    have HF9 := hid_mk (HF.out.xt hx9 hfr)
    have HX9 := hid_mk (Xt.trans _ _ _ HX.out hx9)
    have HK9 := hid_mk hk9
    have hz0 := HF9.out.f0
    have hz1 := HF9.out.f1
    have y5 := HF9.out.at_.c5
    have y4 := HF9.out.at_.c4
    have hnb9 := cell_lt HF9.out.at_.c0
    clear hx9 hk9
    simp only [Act.put, List.setIfInBounds_toArray, List.set_cons_succ, List.set_cons_zero]
    refine plan_loud1 (hi_of HO rfl) rfl ?_
    go_simp
    refine ⟨by (repeat (first | exact Xt.refl _ | apply Xt.drew_left | apply Xt.drew | apply Xt.alloc)), ?_⟩
    refine plan_read _ (hi_of HO rfl) rfl (fun w' hE => by (repeat (with_reducible replace hE := Xt.unD hE)); have hcE := hE.hc; clear hE; go_simp; rfl) ?_
    simp only [Act.put, List.setIfInBounds_toArray, List.set_cons_succ, List.set_cons_zero]
    refine plan_loud1 (hi_of HO rfl) rfl ?_
    go_simp
    skip
    refine plan_done ?fin103
    clear HO
    refine gen_world (P := Try.prog) (fun W' => Fresh1 W' nb k v s (J sl s) (.pointer (some ⟨lb, 0, none⟩)) (.pointer pb) N H ∧ Xt Sp w W' ∧ K (n + 1) W') ⟨HF9.out.set, HX9.out|>.set HNB.out |>.set HNB.out, hJ.kset (hJ.kset HK9.out hfr) hfr⟩ ?_
    clear HF9 HX9 HK9 hz0 hnb9 HK HF HX
    clear hz1 y4 y5 t2 n4 n5 hlblt htblt hnblt l4 l5
    clear W
    rintro W ⟨hF, hX, hk⟩
    have HF := hid_mk hF
    have HX := hid_mk hX
    have HK := hid_mk hk
    clear hF hX hk
    cases r with
    | nil =>
      obtain rfl : pb = none := by simpa [Tr.isNil] using HPB.out
      have hse : (Tr.node (Tr.node ll lk lv ls lr) k v s Tr.nil).sum J z = J sl s := by (rw [← HSM.out]; rfl)
      go_wp2
      go_ret
      have e := HNH.out
      have hfn := HF.out.at_
      rw [e.1, e.2] at hfn
      exact ⟨_, 1, rfl, ⟨_, _, _, rfl, hfr, (by rw [hse]; exact hfn), HL.out.xt HX.out, HR.out.xt HX.out⟩, HX.out, HK.out, by omega⟩
    | node rl rk rvv rs rr =>
      generalize hsr : (Tr.node rl rk rvv rs rr).sum J z = sr at *
      have HWB := hid_mk (show g (J sl s) + g sr ≤ M by have := HWr.out rfl; have := HWT.out; (have := hJ.wtJ sl s; have := HWl.out rfl; omega))
      obtain ⟨lb2, p1, p2, e, hlbn2, hLN, hL1, hL2⟩ := HR.out
      obtain rfl : pb = some ⟨lb2, 0, none⟩ := by simpa using e
      rw [hsr] at hLN
      have hse : (Tr.node (Tr.node ll lk lv ls lr) k v s (Tr.node rl rk rvv rs rr)).sum J z = J (J sl s) sr := by rw [← hsr]; (rw [← HSM.out]; rfl)
      obtain ⟨-, -, -, -, l4, l5, -, -, -, -⟩ := hLN.xt HX.out hlbn2
      obtain ⟨-, -, t2, -⟩ := HT.out.xt HX.out htn
      obtain ⟨-, -, -, -, n4, n5, -, -, -, -⟩ := HF.out.at_
      have hlblt := cell_lt l4
      have htblt := cell_lt t2
      have hnblt := cell_lt n4
      clear hsr hL1 hL2 e
      replace hse := hid_mk hse
      go_wp2_with fail
      refine wp_region_held_plan (Xt Sp) (fun i => i != 16) (.quiet 0 (.quiet 1 (.quiet 2 (.quiet 3 (.quiet 4 (.quiet 5 (.quiet 6 (.quiet 7 (.quiet 8 (.quiet 9 (.quiet 10 (.quiet 11 (.quiet 12 (.alt 13 (.alt 14 (.quiet 15 (.alt 16 .done .stop)) .stop) .stop)))))))))))))) (by kernel_rfl) (by kernel_rfl) Xt.refl Xt.trans (by intro c a w d v h; cases d <;> exact h) (fun ops HO => ?_)
      refine plan_read _ (hi_of HO rfl) rfl (fun w' hE => by (repeat (with_reducible replace hE := Xt.unD hE)); have hcE := hE.hc; clear hE; go_simp; rfl) ?_
      simp only [Act.put, List.setIfInBounds_toArray, List.set_cons_succ, List.set_cons_zero]
      refine plan_read _ (hi_of HO rfl) rfl (fun w' hE => by (repeat (with_reducible replace hE := Xt.unD hE)); have hcE := hE.hc; clear hE; go_simp; rfl) ?_
      simp only [Act.put, List.setIfInBounds_toArray, List.set_cons_succ, List.set_cons_zero]
      refine plan_read _ (hi_of HO rfl) rfl (fun w' hE => by (repeat (with_reducible replace hE := Xt.unD hE)); have hcE := hE.hc; clear hE; go_simp; rfl) ?_
      simp only [Act.put, List.setIfInBounds_toArray, List.set_cons_succ, List.set_cons_zero]
      refine plan_read _ (hi_of HO rfl) rfl (fun w' hE => by (repeat (with_reducible replace hE := Xt.unD hE)); have hcE := hE.hc; clear hE; go_simp; rfl) ?_
      simp only [Act.put, List.setIfInBounds_toArray, List.set_cons_succ, List.set_cons_zero]
      refine plan_read _ (hi_of HO rfl) rfl (fun w' hE => by (repeat (with_reducible replace hE := Xt.unD hE)); have hcE := hE.hc; clear hE; go_simp; rfl) ?_
      simp only [Act.put, List.setIfInBounds_toArray, List.set_cons_succ, List.set_cons_zero]
      refine plan_read _ (hi_of HO rfl) rfl (fun w' hE => by (repeat (with_reducible replace hE := Xt.unD hE)); have hcE := hE.hc; clear hE; go_simp; rfl) ?_
      simp only [Act.put, List.setIfInBounds_toArray, List.set_cons_succ, List.set_cons_zero]
      refine plan_read _ (hi_of HO rfl) rfl (fun w' hE => by (repeat (with_reducible replace hE := Xt.unD hE)); have hcE := hE.hc; clear hE; go_simp; rfl) ?_
      simp only [Act.put, List.setIfInBounds_toArray, List.set_cons_succ, List.set_cons_zero]
      refine plan_read _ (hi_of HO rfl) rfl (fun w' hE => by (repeat (with_reducible replace hE := Xt.unD hE)); have hcE := hE.hc; clear hE; go_simp; rfl) ?_
      simp only [Act.put, List.setIfInBounds_toArray, List.set_cons_succ, List.set_cons_zero]
      refine plan_read _ (hi_of HO rfl) rfl (fun w' hE => by (repeat (with_reducible replace hE := Xt.unD hE)); have hcE := hE.hc; clear hE; go_simp; rfl) ?_
      simp only [Act.put, List.setIfInBounds_toArray, List.set_cons_succ, List.set_cons_zero]
      refine plan_read _ (hi_of HO rfl) rfl (fun w' hE => by (repeat (with_reducible replace hE := Xt.unD hE)); have hcE := hE.hc; clear hE; go_simp; rfl) ?_
      simp only [Act.put, List.setIfInBounds_toArray, List.set_cons_succ, List.set_cons_zero]
      refine plan_read _ (hi_of HO rfl) rfl (fun w' hE => by (repeat (with_reducible replace hE := Xt.unD hE)); have hcE := hE.hc; clear hE; go_simp; rfl) ?_
      simp only [Act.put, List.setIfInBounds_toArray, List.set_cons_succ, List.set_cons_zero]
      refine plan_read _ (hi_of HO rfl) rfl (fun w' hE => by (repeat (with_reducible replace hE := Xt.unD hE)); have hcE := hE.hc; clear hE; go_simp; rfl) ?_
      simp only [Act.put, List.setIfInBounds_toArray, List.set_cons_succ, List.set_cons_zero]
      refine plan_read _ (hi_of HO rfl) rfl (fun w' hE => by (repeat (with_reducible replace hE := Xt.unD hE)); have hcE := hE.hc; clear hE; go_simp; rfl) ?_
      simp only [Act.put, List.setIfInBounds_toArray, List.set_cons_succ, List.set_cons_zero]
      refine plan_callv1 hJ.enters (hi_of HO rfl) rfl rfl (by go_simp; rfl) (by go_simp; rfl) (by exact (hJ.call (J sl s) sr _ _ (hJ.kext HK.out (by (repeat (first | exact Ext.refl _ | apply Ext.drew_left | apply Ext.drew | apply Ext.alloc)))) HWB.out)) ?_
      rintro e v9 ⟨rfl, hx9, hk9⟩
      refine ⟨_, rfl, fun _ => hx9, ?_⟩
      replace hx9 := Xt.unD hx9
      have HF9 := hid_mk (HF.out.xt hx9 hfr)
      have HX9 := hid_mk (Xt.trans _ _ _ HX.out hx9)
      have HK9 := hid_mk hk9
      have hz0 := HF9.out.f0
      have hz1 := HF9.out.f1
      have y5 := HF9.out.at_.c5
      have y4 := HF9.out.at_.c4
      have hnb9 := cell_lt HF9.out.at_.c0
      clear hx9 hk9
      simp only [Act.put, List.setIfInBounds_toArray, List.set_cons_succ, List.set_cons_zero]
      refine plan_loud1 (hi_of HO rfl) rfl ?_
      go_simp
      refine ⟨by (repeat (first | exact Xt.refl _ | apply Xt.drew_left | apply Xt.drew | apply Xt.alloc)), ?_⟩
      refine plan_read _ (hi_of HO rfl) rfl (fun w' hE => by (repeat (with_reducible replace hE := Xt.unD hE)); have hcE := hE.hc; clear hE; go_simp; rfl) ?_
      simp only [Act.put, List.setIfInBounds_toArray, List.set_cons_succ, List.set_cons_zero]
      refine plan_loud1 (hi_of HO rfl) rfl ?_
      go_simp
      skip
      refine plan_done ?fin104
      clear HO
      refine gen_world (P := Try.prog) (fun W' => Fresh1 W' nb k v s (J (J sl s) sr) (.pointer (some ⟨lb, 0, none⟩)) (.pointer (some ⟨lb2, 0, none⟩)) N H ∧ Xt Sp w W' ∧ K ((n + 1) + 1) W') ⟨HF9.out.set, HX9.out|>.set HNB.out |>.set HNB.out, hJ.kset (hJ.kset HK9.out hfr) hfr⟩ ?_
      clear HF9 HX9 HK9 hz0 hnb9 HK HF HX
      clear hz1 y4 y5 t2 n4 n5 hlblt htblt hnblt l4 l5
      clear W
      rintro W ⟨hF, hX, hk⟩
      have HF := hid_mk hF
      have HX := hid_mk hX
      have HK := hid_mk hk
      clear hF hX hk
      replace hse := hse.out
      go_wp2
      go_ret
      have e := HNH.out
      have hfn := HF.out.at_
      rw [e.1, e.2] at hfn
      exact ⟨_, 1 + 1, rfl, ⟨_, _, _, rfl, hfr, (by rw [hse]; exact hfn), HL.out.xt HX.out, HR.out.xt HX.out⟩, HX.out, HK.out, by omega⟩
end Go.Proofs.Ytgglbohcnlcagaa
