/- How much a frame weighs: where it weighs little it has few parts, and each has few entries. -/
import Derived.Test.YtgglbohcnlcagaaF4
namespace Go.Proofs.Ytgglbohcnlcagaa
open Go.RowKit
set_option maxHeartbeats 8000000
set_option maxRecDepth 100000
set_option linter.unusedSimpArgs false
set_option linter.unusedVariables false
theorem en_WeightParts : Enters Try.prog 56 := ⟨_, Try.func56, by kernel_rfl, rfl⟩
theorem en_Weight : Enters Try.prog 66 := ⟨_, Try.func66, by kernel_rfl, rfl⟩
theorem en_beyond : Enters Try.prog 14 := ⟨_, Try.func14, by kernel_rfl, rfl⟩

/-- Where the number is small, so is the list. -/
def Light (n : Int) (l : List Prt) : Prop := n ≤ 536870912 → l.length ≤ 536870912 ∧ ∀ p ∈ l, p.ents.length ≤ 536870912

theorem weigh_step (m x y : Int) (h0 : 0 ≤ m) (h1 : m < 2147483648) (hx : 0 ≤ x ∧ x ≤ 2147483648) (hy : 0 ≤ y ∧ y ≤ 2147483648) :
    ∃ m', IntKind.i64.wrap (IntKind.i64.wrap (IntKind.i64.wrap (m + 1) + x) + y) = m' ∧ m + 1 ≤ m' ∧ m' ≤ 8589934592 := by
  refine ⟨_, rfl, ?_⟩
  simp only [IntKind.wrap_i64]
  omega
theorem cap_bound (a : Nat) : 0 ≤ (if 2147483648 < (a : Int) then (2147483648 : Int) else (a : Int)) ∧ (if 2147483648 < (a : Int) then (2147483648 : Int) else (a : Int)) ≤ 2147483648 := by
  split <;> omega

theorem WeightParts_any (l : List Prt) (sv : Value) (w : World) (hs : PrtSl w sv l) :
    Calls Try.prog 56 #[sv] w fun e w' => (∃ n : Int, e = .returned (.int .i64 n) ∧ Light n l) ∧ Ext w w' := by
  obtain ⟨a, c, rfl, hlc, hl63, hcells⟩ := hs
  have HC := hid_mk hcells
  clear hcells
  go_enter Try.func56, Try.ntmps56
  go_wp2
  go_loopw [3, 4] (fun n i wr => ∃ (m : Int) (k : Nat), k ≤ l.length ∧ n = .int .i64 m ∧ i = .int .i64 k ∧ 0 ≤ m ∧ m ≤ 8589934592 ∧ (m < 2147483648 → (k : Int) ≤ m ∧ ∀ p ∈ l.take k, (p.ents.length : Int) ≤ m) ∧ Ext w wr) (fun _ i _ => l.length - (intOf i).toNat)
  case atStart => exact ⟨0, 0, Nat.zero_le _, rfl, rfl, by omega, by omega, fun _ => ⟨by omega, by simp⟩, Ext.refl _⟩
  case round =>
    obtain ⟨m, k, hk, rfl, rfl, hm0, hm1, hm2, hx⟩ := hrel
    obtain ⟨wo, hwo⟩ : ∃ wo, wo = wr := ⟨_, rfl⟩
    subst hwo
    have HX := hid_mk hx
    have HM2 := hid_mk hm2
    clear hx hm2
    by_cases hlt : k < l.length
    · by_cases hm : m < 2147483648
      · obtain ⟨b, o, rfl, hcl⟩ := HC.out (by omega)
        obtain ⟨pv, hA⟩ := hcl k hlt
        clear hcl
        replace hA := hA.ext HX.out
        have HTK := hid_mk (List.take_succ_eq_append_getElem hlt)
        generalize l[k] = p at *
        have HA := hid_mk hA
        obtain ⟨kind, lo, hi, op, cnt, s0, s1, ents⟩ := p
        obtain ⟨a0, a1, a2, a3, a4, a5, a6, a7, hE⟩ := hA
        obtain ⟨ea, ec, rfl, hec, he63, hecl⟩ := hE
        have HEC := hid_mk hecl
        clear hecl
        dsimp only at a0 a1 a2 a3 a4 a5 a6 a7 HEC HA hec he63
        have hbl := cell_lt a0
        have hk1 : (k : Int) < (l.length : Int) := by omega
        go_wp2_with fail
        refine wp_region_held_below (fun _ => true) (.quiet 0 (.quiet 1 (.quiet 2 (.quiet 3 (.quiet 4 (.quiet 5 (.quiet 6 (.quiet 7 (.quiet 8 (.quiet 9 (.quiet 10 (.quiet 11 (.quiet 12 (.quiet 13 (.quiet 14 (.quiet 15 (.quiet 16 (.quiet 17 (.quiet 18 (.quiet 19 (.quiet 20 .done))))))))))))))))))))) (by kernel_rfl) (by kernel_rfl) (by intro c a w d v h; cases d <;> exact h) (fun ops HO => ?_)
        refine plan_read _ (hi_of HO rfl) rfl (fun w' hE => by (first | replace hE := Ext.unD hE | skip); have hcE := hE.hc; clear hE; go_simp; rfl) ?_
        simp only [Act.put, List.setIfInBounds_toArray, List.set_cons_succ, List.set_cons_zero]
        refine plan_read _ (hi_of HO rfl) rfl (fun w' hE => by (first | replace hE := Ext.unD hE | skip); have hcE := hE.hc; clear hE; go_simp; rfl) ?_
        simp only [Act.put, List.setIfInBounds_toArray, List.set_cons_succ, List.set_cons_zero]
        refine plan_read _ (hi_of HO rfl) rfl (fun w' hE => by (first | replace hE := Ext.unD hE | skip); have hcE := hE.hc; clear hE; go_simp; rfl) ?_
        simp only [Act.put, List.setIfInBounds_toArray, List.set_cons_succ, List.set_cons_zero]
        refine plan_read _ (hi_of HO rfl) rfl (fun w' hE => by (first | replace hE := Ext.unD hE | skip); have hcE := hE.hc; clear hE; go_simp; rfl) ?_
        simp only [Act.put, List.setIfInBounds_toArray, List.set_cons_succ, List.set_cons_zero]
        refine plan_read _ (hi_of HO rfl) rfl (fun w' hE => by (first | replace hE := Ext.unD hE | skip); have hcE := hE.hc; clear hE; go_simp; rfl) ?_
        simp only [Act.put, List.setIfInBounds_toArray, List.set_cons_succ, List.set_cons_zero]
        refine plan_read _ (hi_of HO rfl) rfl (fun w' hE => by (first | replace hE := Ext.unD hE | skip); have hcE := hE.hc; clear hE; go_simp; rfl) ?_
        simp only [Act.put, List.setIfInBounds_toArray, List.set_cons_succ, List.set_cons_zero]
        refine plan_read _ (hi_of HO rfl) rfl (fun w' hE => by (first | replace hE := Ext.unD hE | skip); have hcE := hE.hc; clear hE; go_simp; rfl) ?_
        simp only [Act.put, List.setIfInBounds_toArray, List.set_cons_succ, List.set_cons_zero]
        refine plan_read _ (hi_of HO rfl) rfl (fun w' hE => by (first | replace hE := Ext.unD hE | skip); have hcE := hE.hc; clear hE; go_simp; rfl) ?_
        simp only [Act.put, List.setIfInBounds_toArray, List.set_cons_succ, List.set_cons_zero]
        refine plan_read _ (hi_of HO rfl) rfl (fun w' hE => by (first | replace hE := Ext.unD hE | skip); have hcE := hE.hc; clear hE; go_simp; rfl) ?_
        simp only [Act.put, List.setIfInBounds_toArray, List.set_cons_succ, List.set_cons_zero]
        refine plan_read _ (hi_of HO rfl) rfl (fun w' hE => by (first | replace hE := Ext.unD hE | skip); have hcE := hE.hc; clear hE; go_simp; rfl) ?_
        simp only [Act.put, List.setIfInBounds_toArray, List.set_cons_succ, List.set_cons_zero]
        refine plan_read _ (hi_of HO rfl) rfl (fun w' hE => by (first | replace hE := Ext.unD hE | skip); have hcE := hE.hc; clear hE; go_simp; rfl) ?_
        simp only [Act.put, List.setIfInBounds_toArray, List.set_cons_succ, List.set_cons_zero]
        refine plan_read _ (hi_of HO rfl) rfl (fun w' hE => by (first | replace hE := Ext.unD hE | skip); have hcE := hE.hc; clear hE; go_simp; rfl) ?_
        simp only [Act.put, List.setIfInBounds_toArray, List.set_cons_succ, List.set_cons_zero]
        refine plan_read _ (hi_of HO rfl) rfl (fun w' hE => by (first | replace hE := Ext.unD hE | skip); have hcE := hE.hc; clear hE; go_simp; rfl) ?_
        simp only [Act.put, List.setIfInBounds_toArray, List.set_cons_succ, List.set_cons_zero]
        refine plan_read _ (hi_of HO rfl) rfl (fun w' hE => by (first | replace hE := Ext.unD hE | skip); have hcE := hE.hc; clear hE; go_simp; rfl) ?_
        simp only [Act.put, List.setIfInBounds_toArray, List.set_cons_succ, List.set_cons_zero]
        refine plan_read _ (hi_of HO rfl) rfl (fun w' hE => by (first | replace hE := Ext.unD hE | skip); have hcE := hE.hc; clear hE; go_simp; rfl) ?_
        simp only [Act.put, List.setIfInBounds_toArray, List.set_cons_succ, List.set_cons_zero]
        refine plan_read _ (hi_of HO rfl) rfl (fun w' hE => by (first | replace hE := Ext.unD hE | skip); have hcE := hE.hc; clear hE; go_simp; rfl) ?_
        simp only [Act.put, List.setIfInBounds_toArray, List.set_cons_succ, List.set_cons_zero]
        refine plan_read _ (hi_of HO rfl) rfl (fun w' hE => by (first | replace hE := Ext.unD hE | skip); have hcE := hE.hc; clear hE; go_simp; rfl) ?_
        simp only [Act.put, List.setIfInBounds_toArray, List.set_cons_succ, List.set_cons_zero]
        refine plan_read _ (hi_of HO rfl) rfl (fun w' hE => by (first | replace hE := Ext.unD hE | skip); have hcE := hE.hc; clear hE; go_simp; rfl) ?_
        simp only [Act.put, List.setIfInBounds_toArray, List.set_cons_succ, List.set_cons_zero]
        refine plan_read _ (hi_of HO rfl) rfl (fun w' hE => by (first | replace hE := Ext.unD hE | skip); have hcE := hE.hc; clear hE; go_simp; rfl) ?_
        simp only [Act.put, List.setIfInBounds_toArray, List.set_cons_succ, List.set_cons_zero]
        refine plan_read _ (hi_of HO rfl) rfl (fun w' hE => by (first | replace hE := Ext.unD hE | skip); have hcE := hE.hc; clear hE; go_simp; rfl) ?_
        simp only [Act.put, List.setIfInBounds_toArray, List.set_cons_succ, List.set_cons_zero]
        refine plan_read _ (hi_of HO rfl) rfl (fun w' hE => by (first | replace hE := Ext.unD hE | skip); have hcE := hE.hc; clear hE; go_simp; rfl) ?_
        simp only [Act.put, List.setIfInBounds_toArray, List.set_cons_succ, List.set_cons_zero]
        refine plan_done ?fin101
        have hc1 := cap_bound lo.size
        have hc2 := cap_bound hi.size
        generalize (if 2147483648 < (lo.size : Int) then (2147483648 : Int) else (lo.size : Int)) = x1 at hc1 ⊢
        generalize (if 2147483648 < (hi.size : Int) then (2147483648 : Int) else (hi.size : Int)) = x2 at hc2 ⊢
        obtain ⟨m', hm', hg1, hg2⟩ := weigh_step m x1 x2 hm0 hm hc1 hc2
        rw [hm']
        clear hm'
        go_wp2
        go_loopw [3, 5] (fun n i wi => ∃ (q : Int) (j : Nat), j ≤ ents.length ∧ n = .int .i64 q ∧ i = .int .i64 j ∧ (q < 2147483648 → (k : Int) + 1 + j ≤ q) ∧ 0 ≤ q ∧ q ≤ 8589934592 ∧ m ≤ q ∧ Ext wo wi) (fun _ i _ => ents.length - (intOf i).toNat)
        case atStart => 
          refine ⟨m', 0, Nat.zero_le _, rfl, rfl, ?_, by omega, by omega, by omega, by (repeat (first | exact Ext.refl _ | apply Ext.drew_left | apply Ext.drew | apply Ext.alloc))⟩
          have := (HM2.out hm).1
          omega
        case round =>
          obtain ⟨q, j, hj, rfl, rfl, hq0, hq1, hq2, hq3, hx3⟩ := hrel
          have HXI := hid_mk hx3
          have hc3 := hx3.hc; have hl3 := hx3.hl; have he3 := hx3.hle; have hn3 := hx3.hne; replace hx3 := hid_mk hx3
          have HQ0 := hid_mk hq0
          clear hq0
          by_cases hjt : j < ents.length
          · by_cases hq : q < 2147483648
            · obtain ⟨d, u, rfl, hd⟩ := HEC.out (by omega)
              have hD := (hd j hjt).ext HXI.out
              clear hd
              generalize ents[j] = x at *
              obtain ⟨xk, xc, xn, xv, xd⟩ := x
              obtain ⟨d0, d1, d2, d3, d4⟩ := hD
              dsimp only at d0 d1 d2 d3 d4
              have hdl := cell_lt d0
              have hjl : (j : Int) < (ents.length : Int) := by omega
              go_wp2_with fail
              refine wp_region_held_below (fun _ => true) (.quiet 0 (.quiet 1 (.quiet 2 (.quiet 3 (.quiet 4 (.quiet 5 (.quiet 6 (.quiet 7 (.quiet 8 (.quiet 9 (.quiet 10 (.quiet 11 (.quiet 12 (.quiet 13 (.quiet 14 (.quiet 15 (.quiet 16 (.quiet 17 (.quiet 18 (.quiet 19 (.quiet 20 (.quiet 21 (.quiet 22 (.quiet 23 (.quiet 24 (.quiet 25 (.quiet 26 .done))))))))))))))))))))))))))) (by kernel_rfl) (by kernel_rfl) (by intro c a w d v h; cases d <;> exact h) (fun ops HO => ?_)
              refine plan_read _ (hi_of HO rfl) rfl (fun w' hE => by have hcE := (Ext.trans _ _ _ (by (repeat (first | exact hx3.out | apply Ext.drew | apply Ext.alloc))) hE).hc; (first | replace hE := Ext.unD hE | skip); have hcF := hE.hc; clear hE; go_simp; rfl) ?_
              simp only [Act.put, List.setIfInBounds_toArray, List.set_cons_succ, List.set_cons_zero]
              refine plan_read _ (hi_of HO rfl) rfl (fun w' hE => by have hcE := (Ext.trans _ _ _ (by (repeat (first | exact hx3.out | apply Ext.drew | apply Ext.alloc))) hE).hc; (first | replace hE := Ext.unD hE | skip); have hcF := hE.hc; clear hE; go_simp; rfl) ?_
              simp only [Act.put, List.setIfInBounds_toArray, List.set_cons_succ, List.set_cons_zero]
              refine plan_read _ (hi_of HO rfl) rfl (fun w' hE => by have hcE := (Ext.trans _ _ _ (by (repeat (first | exact hx3.out | apply Ext.drew | apply Ext.alloc))) hE).hc; (first | replace hE := Ext.unD hE | skip); have hcF := hE.hc; clear hE; go_simp; rfl) ?_
              simp only [Act.put, List.setIfInBounds_toArray, List.set_cons_succ, List.set_cons_zero]
              refine plan_read _ (hi_of HO rfl) rfl (fun w' hE => by have hcE := (Ext.trans _ _ _ (by (repeat (first | exact hx3.out | apply Ext.drew | apply Ext.alloc))) hE).hc; (first | replace hE := Ext.unD hE | skip); have hcF := hE.hc; clear hE; go_simp; rfl) ?_
              simp only [Act.put, List.setIfInBounds_toArray, List.set_cons_succ, List.set_cons_zero]
              refine plan_read _ (hi_of HO rfl) rfl (fun w' hE => by have hcE := (Ext.trans _ _ _ (by (repeat (first | exact hx3.out | apply Ext.drew | apply Ext.alloc))) hE).hc; (first | replace hE := Ext.unD hE | skip); have hcF := hE.hc; clear hE; go_simp; rfl) ?_
              simp only [Act.put, List.setIfInBounds_toArray, List.set_cons_succ, List.set_cons_zero]
              refine plan_read _ (hi_of HO rfl) rfl (fun w' hE => by have hcE := (Ext.trans _ _ _ (by (repeat (first | exact hx3.out | apply Ext.drew | apply Ext.alloc))) hE).hc; (first | replace hE := Ext.unD hE | skip); have hcF := hE.hc; clear hE; go_simp; rfl) ?_
              simp only [Act.put, List.setIfInBounds_toArray, List.set_cons_succ, List.set_cons_zero]
              refine plan_read _ (hi_of HO rfl) rfl (fun w' hE => by have hcE := (Ext.trans _ _ _ (by (repeat (first | exact hx3.out | apply Ext.drew | apply Ext.alloc))) hE).hc; (first | replace hE := Ext.unD hE | skip); have hcF := hE.hc; clear hE; go_simp; rfl) ?_
              simp only [Act.put, List.setIfInBounds_toArray, List.set_cons_succ, List.set_cons_zero]
              refine plan_read _ (hi_of HO rfl) rfl (fun w' hE => by have hcE := (Ext.trans _ _ _ (by (repeat (first | exact hx3.out | apply Ext.drew | apply Ext.alloc))) hE).hc; (first | replace hE := Ext.unD hE | skip); have hcF := hE.hc; clear hE; go_simp; rfl) ?_
              simp only [Act.put, List.setIfInBounds_toArray, List.set_cons_succ, List.set_cons_zero]
              refine plan_read _ (hi_of HO rfl) rfl (fun w' hE => by have hcE := (Ext.trans _ _ _ (by (repeat (first | exact hx3.out | apply Ext.drew | apply Ext.alloc))) hE).hc; (first | replace hE := Ext.unD hE | skip); have hcF := hE.hc; clear hE; go_simp; rfl) ?_
              simp only [Act.put, List.setIfInBounds_toArray, List.set_cons_succ, List.set_cons_zero]
              refine plan_read _ (hi_of HO rfl) rfl (fun w' hE => by have hcE := (Ext.trans _ _ _ (by (repeat (first | exact hx3.out | apply Ext.drew | apply Ext.alloc))) hE).hc; (first | replace hE := Ext.unD hE | skip); have hcF := hE.hc; clear hE; go_simp; rfl) ?_
              simp only [Act.put, List.setIfInBounds_toArray, List.set_cons_succ, List.set_cons_zero]
              refine plan_read _ (hi_of HO rfl) rfl (fun w' hE => by have hcE := (Ext.trans _ _ _ (by (repeat (first | exact hx3.out | apply Ext.drew | apply Ext.alloc))) hE).hc; (first | replace hE := Ext.unD hE | skip); have hcF := hE.hc; clear hE; go_simp; rfl) ?_
              simp only [Act.put, List.setIfInBounds_toArray, List.set_cons_succ, List.set_cons_zero]
              refine plan_read _ (hi_of HO rfl) rfl (fun w' hE => by have hcE := (Ext.trans _ _ _ (by (repeat (first | exact hx3.out | apply Ext.drew | apply Ext.alloc))) hE).hc; (first | replace hE := Ext.unD hE | skip); have hcF := hE.hc; clear hE; go_simp; rfl) ?_
              simp only [Act.put, List.setIfInBounds_toArray, List.set_cons_succ, List.set_cons_zero]
              refine plan_read _ (hi_of HO rfl) rfl (fun w' hE => by have hcE := (Ext.trans _ _ _ (by (repeat (first | exact hx3.out | apply Ext.drew | apply Ext.alloc))) hE).hc; (first | replace hE := Ext.unD hE | skip); have hcF := hE.hc; clear hE; go_simp; rfl) ?_
              simp only [Act.put, List.setIfInBounds_toArray, List.set_cons_succ, List.set_cons_zero]
              refine plan_read _ (hi_of HO rfl) rfl (fun w' hE => by have hcE := (Ext.trans _ _ _ (by (repeat (first | exact hx3.out | apply Ext.drew | apply Ext.alloc))) hE).hc; (first | replace hE := Ext.unD hE | skip); have hcF := hE.hc; clear hE; go_simp; rfl) ?_
              simp only [Act.put, List.setIfInBounds_toArray, List.set_cons_succ, List.set_cons_zero]
              refine plan_read _ (hi_of HO rfl) rfl (fun w' hE => by have hcE := (Ext.trans _ _ _ (by (repeat (first | exact hx3.out | apply Ext.drew | apply Ext.alloc))) hE).hc; (first | replace hE := Ext.unD hE | skip); have hcF := hE.hc; clear hE; go_simp; rfl) ?_
              simp only [Act.put, List.setIfInBounds_toArray, List.set_cons_succ, List.set_cons_zero]
              refine plan_read _ (hi_of HO rfl) rfl (fun w' hE => by have hcE := (Ext.trans _ _ _ (by (repeat (first | exact hx3.out | apply Ext.drew | apply Ext.alloc))) hE).hc; (first | replace hE := Ext.unD hE | skip); have hcF := hE.hc; clear hE; go_simp; rfl) ?_
              simp only [Act.put, List.setIfInBounds_toArray, List.set_cons_succ, List.set_cons_zero]
              refine plan_read _ (hi_of HO rfl) rfl (fun w' hE => by have hcE := (Ext.trans _ _ _ (by (repeat (first | exact hx3.out | apply Ext.drew | apply Ext.alloc))) hE).hc; (first | replace hE := Ext.unD hE | skip); have hcF := hE.hc; clear hE; go_simp; rfl) ?_
              simp only [Act.put, List.setIfInBounds_toArray, List.set_cons_succ, List.set_cons_zero]
              refine plan_read _ (hi_of HO rfl) rfl (fun w' hE => by have hcE := (Ext.trans _ _ _ (by (repeat (first | exact hx3.out | apply Ext.drew | apply Ext.alloc))) hE).hc; (first | replace hE := Ext.unD hE | skip); have hcF := hE.hc; clear hE; go_simp; rfl) ?_
              simp only [Act.put, List.setIfInBounds_toArray, List.set_cons_succ, List.set_cons_zero]
              refine plan_read _ (hi_of HO rfl) rfl (fun w' hE => by have hcE := (Ext.trans _ _ _ (by (repeat (first | exact hx3.out | apply Ext.drew | apply Ext.alloc))) hE).hc; (first | replace hE := Ext.unD hE | skip); have hcF := hE.hc; clear hE; go_simp; rfl) ?_
              simp only [Act.put, List.setIfInBounds_toArray, List.set_cons_succ, List.set_cons_zero]
              refine plan_read _ (hi_of HO rfl) rfl (fun w' hE => by have hcE := (Ext.trans _ _ _ (by (repeat (first | exact hx3.out | apply Ext.drew | apply Ext.alloc))) hE).hc; (first | replace hE := Ext.unD hE | skip); have hcF := hE.hc; clear hE; go_simp; rfl) ?_
              simp only [Act.put, List.setIfInBounds_toArray, List.set_cons_succ, List.set_cons_zero]
              refine plan_read _ (hi_of HO rfl) rfl (fun w' hE => by have hcE := (Ext.trans _ _ _ (by (repeat (first | exact hx3.out | apply Ext.drew | apply Ext.alloc))) hE).hc; (first | replace hE := Ext.unD hE | skip); have hcF := hE.hc; clear hE; go_simp; rfl) ?_
              simp only [Act.put, List.setIfInBounds_toArray, List.set_cons_succ, List.set_cons_zero]
              refine plan_read _ (hi_of HO rfl) rfl (fun w' hE => by have hcE := (Ext.trans _ _ _ (by (repeat (first | exact hx3.out | apply Ext.drew | apply Ext.alloc))) hE).hc; (first | replace hE := Ext.unD hE | skip); have hcF := hE.hc; clear hE; go_simp; rfl) ?_
              simp only [Act.put, List.setIfInBounds_toArray, List.set_cons_succ, List.set_cons_zero]
              refine plan_read _ (hi_of HO rfl) rfl (fun w' hE => by have hcE := (Ext.trans _ _ _ (by (repeat (first | exact hx3.out | apply Ext.drew | apply Ext.alloc))) hE).hc; (first | replace hE := Ext.unD hE | skip); have hcF := hE.hc; clear hE; go_simp; rfl) ?_
              simp only [Act.put, List.setIfInBounds_toArray, List.set_cons_succ, List.set_cons_zero]
              refine plan_read _ (hi_of HO rfl) rfl (fun w' hE => by have hcE := (Ext.trans _ _ _ (by (repeat (first | exact hx3.out | apply Ext.drew | apply Ext.alloc))) hE).hc; (first | replace hE := Ext.unD hE | skip); have hcF := hE.hc; clear hE; go_simp; rfl) ?_
              simp only [Act.put, List.setIfInBounds_toArray, List.set_cons_succ, List.set_cons_zero]
              refine plan_read _ (hi_of HO rfl) rfl (fun w' hE => by have hcE := (Ext.trans _ _ _ (by (repeat (first | exact hx3.out | apply Ext.drew | apply Ext.alloc))) hE).hc; (first | replace hE := Ext.unD hE | skip); have hcF := hE.hc; clear hE; go_simp; rfl) ?_
              simp only [Act.put, List.setIfInBounds_toArray, List.set_cons_succ, List.set_cons_zero]
              refine plan_read _ (hi_of HO rfl) rfl (fun w' hE => by have hcE := (Ext.trans _ _ _ (by (repeat (first | exact hx3.out | apply Ext.drew | apply Ext.alloc))) hE).hc; (first | replace hE := Ext.unD hE | skip); have hcF := hE.hc; clear hE; go_simp; rfl) ?_
              simp only [Act.put, List.setIfInBounds_toArray, List.set_cons_succ, List.set_cons_zero]
              refine plan_read _ (hi_of HO rfl) rfl (fun w' hE => by have hcE := (Ext.trans _ _ _ (by (repeat (first | exact hx3.out | apply Ext.drew | apply Ext.alloc))) hE).hc; (first | replace hE := Ext.unD hE | skip); have hcF := hE.hc; clear hE; go_simp; rfl) ?_
              simp only [Act.put, List.setIfInBounds_toArray, List.set_cons_succ, List.set_cons_zero]
              refine plan_done ?fin102
              have hc1 := cap_bound xk.size
              have hc2 := cap_bound xv.size
              generalize (if 2147483648 < (xk.size : Int) then (2147483648 : Int) else (xk.size : Int)) = y1 at hc1 ⊢
              generalize (if 2147483648 < (xv.size : Int) then (2147483648 : Int) else (xv.size : Int)) = y2 at hc2 ⊢
              obtain ⟨q', hq', hg3, hg4⟩ := weigh_step q y1 y2 hq1 hq hc1 hc2
              rw [hq']
              clear hq'
              go_wp2
              go_roundw
              case rel =>
                have := HQ0.out hq
                exact ⟨q', j + 1, by omega, rfl, by go_num, by omega, by omega, by omega, by omega, Ext.trans _ _ _ hx3.out (by (repeat (first | exact Ext.refl _ | apply Ext.drew_left | apply Ext.drew | apply Ext.alloc)))⟩
              case measure => simp [intOf]; omega
            · have hjl : (j : Int) < (ents.length : Int) := by omega
              go_wp2
              go_roundw
              case rel => exact ⟨q, k + 1, by omega, rfl, by go_num, by omega, by omega, fun h => absurd h hq, Ext.trans _ _ _ HX.out hx3.out⟩
              case measure => simp [intOf]; omega
          · have e : j = ents.length := by omega
            subst e
            go_wp2
            go_roundw
            case rel =>
              refine ⟨q, k + 1, by omega, rfl, by go_num, by omega, by omega, fun h => ?_, Ext.trans _ _ _ HX.out hx3.out⟩
              have h1 := HQ0.out h
              refine ⟨by omega, ?_⟩
              rw [HTK.out]
              intro p hp
              rcases List.mem_append.1 hp with hp | hp
              · have := (HM2.out hm).2 p hp; omega
              · rw [List.mem_singleton.1 hp]; show (ents.length : Int) ≤ q; omega
            case measure => simp [intOf]; omega
      · have hk1 : (k : Int) < (l.length : Int) := by omega
        go_wp2
        go_ret
        exact ⟨⟨m, rfl, fun h => absurd h (by omega)⟩, HX.out⟩
    · have e : k = l.length := by omega
      subst e
      go_wp2
      go_ret
      refine ⟨⟨m, rfl, fun h => ?_⟩, HX.out⟩
      obtain ⟨h1, h2⟩ := HM2.out (by omega)
      rw [List.take_length] at h2
      exact ⟨by omega, fun p hp => by have := h2 p hp; omega⟩

theorem Weight_any (f t o li nu tu : Int) (l : List Prt) (sv : Value) (w : World) (hs : PrtSl w sv l) :
    Calls Try.prog 66 #[.agg #[.int .i64 f, .int .i64 t, .int .i64 o, .int .i64 li, .int .i64 nu, .int .i64 tu, sv]] w fun e w' => (∃ n : Int, e = .returned (.int .i64 n) ∧ Light n l) ∧ Ext w w' := by
  have HS := hid_mk hs
  obtain ⟨a, c, rfl, -, -, -⟩ := hs
  go_enter Try.func66, Try.ntmps66
  go_wp2_with fail
  refine (WeightParts_any l _ _ (HS.out.ext (by (repeat (first | exact Ext.refl _ | apply Ext.drew_left | apply Ext.drew | apply Ext.alloc))))).mono ?_
  rintro e w1 ⟨⟨n, rfl, hn⟩, hx1⟩
  replace hx1 := hid_mk (Ext.trans _ _ _ (show Ext w _ by (repeat (first | exact Ext.refl _ | apply Ext.drew_left | apply Ext.drew | apply Ext.alloc))) hx1)
  have hn := hid_mk hn
  go_wp2
  go_ret
  exact ⟨⟨n, rfl, hn.out⟩, hx1.out⟩

theorem beyond_any (f t o li nu tu : Int) (l : List Prt) (sv : Value) (w : World) (hs : PrtSl w sv l) :
    Calls Try.prog 14 #[.agg #[.int .i64 f, .int .i64 t, .int .i64 o, .int .i64 li, .int .i64 nu, .int .i64 tu, sv]] w fun e w' => (∃ b : Bool, e = .returned (.bool b) ∧ (b = false → l.length ≤ 536870912 ∧ ∀ p ∈ l, p.ents.length ≤ 536870912)) ∧ Ext w w' := by
  have HS := hid_mk hs
  obtain ⟨a, c, rfl, -, -, -⟩ := hs
  go_enter Try.func14, Try.ntmps14
  go_wp2_with fail
  refine (Weight_any f t o li nu tu l _ _ (HS.out.ext (by (repeat (first | exact Ext.refl _ | apply Ext.drew_left | apply Ext.drew | apply Ext.alloc))))).mono ?_
  rintro e w1 ⟨⟨n, rfl, hn⟩, hx1⟩
  replace hx1 := hid_mk (Ext.trans _ _ _ (show Ext w _ by (repeat (first | exact Ext.refl _ | apply Ext.drew_left | apply Ext.drew | apply Ext.alloc))) hx1)
  have hn := hid_mk hn
  go_wp2
  all_goals go_ret
  all_goals exact ⟨⟨_, rfl, fun h => hn.out (by simp at h; omega)⟩, hx1.out⟩
end Go.Proofs.Ytgglbohcnlcagaa
