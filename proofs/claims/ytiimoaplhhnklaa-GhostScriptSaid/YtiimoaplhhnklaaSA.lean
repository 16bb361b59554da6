/- Timers: how two alarms, two names compare, in the program and in the document. -/
import Derived.Test.YtiimoaplhhnklaaPT
import Derived.Test.YtiimoaplhhnklaaMapK
import Derived.Test.YtiimoaplhhnklaaRowT
import Derived.Maps.AppendAt
namespace Go.Proofs.Ytiimoaplhhnklaa
open Go.RowKit
set_option maxHeartbeats 2000000
set_option maxRecDepth 100000
set_option linter.unusedSimpArgs false
set_option linter.unusedVariables false
theorem en_TmCompare : Enters Try.prog 48 := ⟨_, Try.func48, by kernel_rfl, rfl⟩
theorem en_rTmFirst : Enters Try.prog 71 := ⟨_, Try.func71, by kernel_rfl, rfl⟩
theorem firstNZ_drop (xs : List Int) (k : Nat) (h : k < xs.length) : firstNZ (xs.drop k) = if xs.getD k 0 = 0 then firstNZ (xs.drop (k+1)) else xs.getD k 0 := by
  rw [List.drop_eq_getElem_cons h]; simp [firstNZ, List.getD_eq_getElem?_getD, h]
theorem cmpOr_any (b off cap : Nat) (xs : List Int) (w : World) (hlen : xs.length ≤ 1000) (hc : ∀ i, i < xs.length → w.cell? ⟨b, off+i, none⟩ = some (.int .i64 (xs.getD i 0))) :
    Calls Try.prog 66 #[.slice (some ⟨b, off, none⟩) xs.length cap] w fun e w' => e = .returned (.int .i64 (firstNZ xs)) ∧ w = w' := by
  go_enter Try.func66, Try.ntmps66
  go_wp2
  go_loop [8] (fun i => ∃ k : Nat, k ≤ xs.length ∧ i = .int .i64 k ∧ firstNZ xs = firstNZ (xs.drop k)) (fun i => xs.length - (intOf i).toNat)
  case atStart => exact ⟨0, Nat.zero_le _, rfl, by simp⟩
  case round =>
    obtain ⟨k, hk, rfl, hf⟩ := hrel
    have HF : Hid (firstNZ xs = firstNZ (xs.drop k)) := hf
    clear hf
    by_cases hlt : k < xs.length
    · have hcell := hc k hlt
      have HS : Hid (firstNZ (xs.drop k) = if xs.getD k 0 = 0 then firstNZ (xs.drop (k+1)) else xs.getD k 0) := firstNZ_drop xs k hlt
      clear hc
      by_cases hz : xs.getD k 0 = 0
      · rw [hz] at hcell
        have HZ : Hid (xs.getD k 0 = 0) := hz
        clear hz
        go_wp2
        go_round
        case rel => exact ⟨k+1, by omega, by go_num, by rw [HF.out, HS.out, if_pos HZ.out]⟩
        case measure => simp [intOf]; omega
      · generalize xs.getD k 0 = z at *
        go_wp2
        go_ret
        refine ⟨?_, rfl⟩
        rw [HF.out, HS.out, if_neg hz]; rfl
    · go_wp2
      go_ret
      refine ⟨?_, rfl⟩
      rw [HF.out, List.drop_of_length_le (by omega)]; rfl
theorem cmpOr4 (b cap : Nat) (x y z u : Int) (w : World) (h0 : w.cell? ⟨b, 0, none⟩ = some (.int .i64 x)) (h1 : w.cell? ⟨b, 1, none⟩ = some (.int .i64 y)) (h2 : w.cell? ⟨b, 2, none⟩ = some (.int .i64 z)) (h3 : w.cell? ⟨b, 3, none⟩ = some (.int .i64 u)) :
    Calls Try.prog 66 #[.slice (some ⟨b, 0, none⟩) 4 cap] w fun e w' => e = .returned (.int .i64 (firstNZ [x, y, z, u])) ∧ w = w' :=
  cmpOr_any b 0 cap [x, y, z, u] w (by simp) (fun i hi => by
    match i, hi with
    | 0, _ => exact h0
    | 1, _ => exact h1
    | 2, _ => exact h2
    | 3, _ => exact h3)
abbrev nmV (n : Nm) : Value := .agg #[.int .i64 n.1, .int .i64 n.2.1, .int .i64 n.2.2]
abbrev alV (a : Al) : Value := .agg #[.int .i64 a.1.1, .int .i64 a.1.2.1, .int .i64 a.1.2.2, .int .i64 a.2]
theorem cmpAl_def (a b : Al) : cmpAl a b = firstNZ [cmpI a.2 b.2, cmpI a.1.1 b.1.1, cmpI a.1.2.1 b.1.2.1, cmpI a.1.2.2 b.1.2.2] := rfl
theorem compareA_any (a b : Al) (w : World) : Calls Try.prog 48 #[alV a, alV b] w fun e w' => e = .returned (.int .i64 (cmpAl a b)) ∧ Ext w w' := by
  rw [cmpAl_def]
  go_enter Try.func48, Try.ntmps48
  go_wp2
  refine wp_region_held_below (fun _ => true) (.quiet 0 (.quiet 1 (.quiet 2 (.quiet 3 (.quiet 4 (.quiet 5 (.quiet 6 (.quiet 7 (.quiet 8 (.quiet 9 (.quiet 10 (.quiet 11 (.quiet 12 (.quiet 13 (.quiet 14 (.quiet 15 (.quiet 16 (.quiet 17 (.quiet 18 (.quiet 19 (.quiet 20 (.quiet 21 (.quiet 22 (.quiet 23 (.quiet 24 (.quiet 25 (.alt 26 (.quiet 27 (.quiet 28 .done)) .stop))))))))))))))))))))))))))) (by kernel_rfl) (by kernel_rfl) (by intro c a w d v h; cases d <;> exact h) (fun ops HO => ?_)
  refine plan_read _ (hi_of HO rfl) rfl (fun w' hE => by (repeat (with_reducible replace hE := Ext.unD hE)); have hcE := hE.hc; clear hE; go_simp; rfl) ?_
  simp only [Act.put, List.setIfInBounds_toArray, List.set_cons_succ, List.set_cons_zero]
  refine plan_read _ (hi_of HO rfl) rfl (fun w' hE => by (repeat (with_reducible replace hE := Ext.unD hE)); have hcE := hE.hc; clear hE; go_simp; rfl) ?_
  simp only [Act.put, List.setIfInBounds_toArray, List.set_cons_succ, List.set_cons_zero]
  refine plan_read _ (hi_of HO rfl) rfl (fun w' hE => by (repeat (with_reducible replace hE := Ext.unD hE)); have hcE := hE.hc; clear hE; go_simp; rfl) ?_
  simp only [Act.put, List.setIfInBounds_toArray, List.set_cons_succ, List.set_cons_zero]
  refine plan_read _ (hi_of HO rfl) rfl (fun w' hE => by (repeat (with_reducible replace hE := Ext.unD hE)); have hcE := hE.hc; clear hE; go_simp; rfl) ?_
  simp only [Act.put, List.setIfInBounds_toArray, List.set_cons_succ, List.set_cons_zero]
  refine plan_pure _ en_cmpCompare (hi_of HO rfl) rfl rfl (by go_simp; rfl) (fun w' hE => by exact cmpCompare_any _ _ _) ?_
  simp only [Act.put, List.setIfInBounds_toArray, List.set_cons_succ, List.set_cons_zero]
  refine plan_read _ (hi_of HO rfl) rfl (fun w' hE => by (repeat (with_reducible replace hE := Ext.unD hE)); have hcE := hE.hc; clear hE; go_simp; rfl) ?_
  simp only [Act.put, List.setIfInBounds_toArray, List.set_cons_succ, List.set_cons_zero]
  refine plan_read _ (hi_of HO rfl) rfl (fun w' hE => by (repeat (with_reducible replace hE := Ext.unD hE)); have hcE := hE.hc; clear hE; go_simp; rfl) ?_
  simp only [Act.put, List.setIfInBounds_toArray, List.set_cons_succ, List.set_cons_zero]
  refine plan_read _ (hi_of HO rfl) rfl (fun w' hE => by (repeat (with_reducible replace hE := Ext.unD hE)); have hcE := hE.hc; clear hE; go_simp; rfl) ?_
  simp only [Act.put, List.setIfInBounds_toArray, List.set_cons_succ, List.set_cons_zero]
  refine plan_read _ (hi_of HO rfl) rfl (fun w' hE => by (repeat (with_reducible replace hE := Ext.unD hE)); have hcE := hE.hc; clear hE; go_simp; rfl) ?_
  simp only [Act.put, List.setIfInBounds_toArray, List.set_cons_succ, List.set_cons_zero]
  refine plan_read _ (hi_of HO rfl) rfl (fun w' hE => by (repeat (with_reducible replace hE := Ext.unD hE)); have hcE := hE.hc; clear hE; go_simp; rfl) ?_
  simp only [Act.put, List.setIfInBounds_toArray, List.set_cons_succ, List.set_cons_zero]
  refine plan_read _ (hi_of HO rfl) rfl (fun w' hE => by (repeat (with_reducible replace hE := Ext.unD hE)); have hcE := hE.hc; clear hE; go_simp; rfl) ?_
  simp only [Act.put, List.setIfInBounds_toArray, List.set_cons_succ, List.set_cons_zero]
  refine plan_pure _ en_cmpCompare (hi_of HO rfl) rfl rfl (by go_simp; rfl) (fun w' hE => by exact cmpCompare_any _ _ _) ?_
  simp only [Act.put, List.setIfInBounds_toArray, List.set_cons_succ, List.set_cons_zero]
  refine plan_read _ (hi_of HO rfl) rfl (fun w' hE => by (repeat (with_reducible replace hE := Ext.unD hE)); have hcE := hE.hc; clear hE; go_simp; rfl) ?_
  simp only [Act.put, List.setIfInBounds_toArray, List.set_cons_succ, List.set_cons_zero]
  refine plan_read _ (hi_of HO rfl) rfl (fun w' hE => by (repeat (with_reducible replace hE := Ext.unD hE)); have hcE := hE.hc; clear hE; go_simp; rfl) ?_
  simp only [Act.put, List.setIfInBounds_toArray, List.set_cons_succ, List.set_cons_zero]
  refine plan_read _ (hi_of HO rfl) rfl (fun w' hE => by (repeat (with_reducible replace hE := Ext.unD hE)); have hcE := hE.hc; clear hE; go_simp; rfl) ?_
  simp only [Act.put, List.setIfInBounds_toArray, List.set_cons_succ, List.set_cons_zero]
  refine plan_read _ (hi_of HO rfl) rfl (fun w' hE => by (repeat (with_reducible replace hE := Ext.unD hE)); have hcE := hE.hc; clear hE; go_simp; rfl) ?_
  simp only [Act.put, List.setIfInBounds_toArray, List.set_cons_succ, List.set_cons_zero]
  refine plan_read _ (hi_of HO rfl) rfl (fun w' hE => by (repeat (with_reducible replace hE := Ext.unD hE)); have hcE := hE.hc; clear hE; go_simp; rfl) ?_
  simp only [Act.put, List.setIfInBounds_toArray, List.set_cons_succ, List.set_cons_zero]
  refine plan_read _ (hi_of HO rfl) rfl (fun w' hE => by (repeat (with_reducible replace hE := Ext.unD hE)); have hcE := hE.hc; clear hE; go_simp; rfl) ?_
  simp only [Act.put, List.setIfInBounds_toArray, List.set_cons_succ, List.set_cons_zero]
  refine plan_pure _ en_cmpCompare (hi_of HO rfl) rfl rfl (by go_simp; rfl) (fun w' hE => by exact cmpCompare_any _ _ _) ?_
  simp only [Act.put, List.setIfInBounds_toArray, List.set_cons_succ, List.set_cons_zero]
  refine plan_read _ (hi_of HO rfl) rfl (fun w' hE => by (repeat (with_reducible replace hE := Ext.unD hE)); have hcE := hE.hc; clear hE; go_simp; rfl) ?_
  simp only [Act.put, List.setIfInBounds_toArray, List.set_cons_succ, List.set_cons_zero]
  refine plan_read _ (hi_of HO rfl) rfl (fun w' hE => by (repeat (with_reducible replace hE := Ext.unD hE)); have hcE := hE.hc; clear hE; go_simp; rfl) ?_
  simp only [Act.put, List.setIfInBounds_toArray, List.set_cons_succ, List.set_cons_zero]
  refine plan_read _ (hi_of HO rfl) rfl (fun w' hE => by (repeat (with_reducible replace hE := Ext.unD hE)); have hcE := hE.hc; clear hE; go_simp; rfl) ?_
  simp only [Act.put, List.setIfInBounds_toArray, List.set_cons_succ, List.set_cons_zero]
  refine plan_read _ (hi_of HO rfl) rfl (fun w' hE => by (repeat (with_reducible replace hE := Ext.unD hE)); have hcE := hE.hc; clear hE; go_simp; rfl) ?_
  simp only [Act.put, List.setIfInBounds_toArray, List.set_cons_succ, List.set_cons_zero]
  refine plan_read _ (hi_of HO rfl) rfl (fun w' hE => by (repeat (with_reducible replace hE := Ext.unD hE)); have hcE := hE.hc; clear hE; go_simp; rfl) ?_
  simp only [Act.put, List.setIfInBounds_toArray, List.set_cons_succ, List.set_cons_zero]
  refine plan_read _ (hi_of HO rfl) rfl (fun w' hE => by (repeat (with_reducible replace hE := Ext.unD hE)); have hcE := hE.hc; clear hE; go_simp; rfl) ?_
  simp only [Act.put, List.setIfInBounds_toArray, List.set_cons_succ, List.set_cons_zero]
  refine plan_pure _ en_cmpCompare (hi_of HO rfl) rfl rfl (by go_simp; rfl) (fun w' hE => by exact cmpCompare_any _ _ _) ?_
  simp only [Act.put, List.setIfInBounds_toArray, List.set_cons_succ, List.set_cons_zero]
  refine plan_loud1 (hi_of HO rfl) rfl ?_
  go_simp
  refine ⟨by (repeat (first | exact Ext.refl _ | apply Ext.drew_left | apply Ext.drew | apply Ext.alloc)), ?_⟩
  refine plan_pure _ en_cmpOr (hi_of HO rfl) rfl rfl (by go_simp; rfl) (fun w' hE => by exact cmpOr4 _ _ _ _ _ _ _ (by have hcE := hE.hc; clear hE; go_simp; rfl) (by have hcE := hE.hc; clear hE; go_simp; rfl) (by have hcE := hE.hc; clear hE; go_simp; rfl) (by have hcE := hE.hc; clear hE; go_simp; rfl)) ?_
  simp only [Act.put, List.setIfInBounds_toArray, List.set_cons_succ, List.set_cons_zero]
  refine plan_read _ (hi_of HO rfl) rfl (fun w' hE => by (repeat (with_reducible replace hE := Ext.unD hE)); have hcE := hE.hc; clear hE; go_simp; rfl) ?_
  simp only [Act.put, List.setIfInBounds_toArray, List.set_cons_succ, List.set_cons_zero]
  refine plan_done ?fin101
  go_wp2
  go_ret
  exact ⟨rfl, by (repeat (first | exact Ext.refl _ | apply Ext.drew_left | apply Ext.drew | apply Ext.alloc))⟩
def cmpN (a b : Nm) : Int := firstNZ [cmpI a.1 b.1, cmpI a.2.1 b.2.1, cmpI a.2.2 b.2.2]
theorem rcompareNames_any (a b : Nm) (w : World) : Calls Try.prog 77 #[nmV a, nmV b] w fun e w' => e = .returned (.int .i64 (cmpN a b)) ∧ Ext w w' := by
  go_enter Try.func77, Try.ntmps77
  go_wp2_with (first | (go_at_call 79; refine (rorder_any _ _ _).mono ?_; rintro e w' ⟨rfl, rfl⟩))
  all_goals go_ret
  all_goals (refine ⟨?_, by (repeat (first | exact Ext.refl _ | apply Ext.drew_left | apply Ext.drew | apply Ext.alloc))⟩)
  all_goals (refine ret_int ?_; simp only [cmpN, firstNZ, cmpI]; (repeat' split) <;> first | rfl | omega | (simp at *; omega))
theorem first_is (a b : Al) : (if a.2 = b.2 then decide (cmpN a.1 b.1 < 0) else decide (a.2 < b.2)) = decide (aLt a b) := by
  rw [Bool.eq_iff_iff, decide_eq_true_eq, ← cmp_lt a b]
  unfold cmpAl cmpN
  by_cases h1 : a.2 = b.2
  · rw [if_pos h1, decide_eq_true_eq]
    have e : cmpI a.2 b.2 = 0 := by unfold cmpI; rw [if_neg (by omega), if_neg (by omega)]
    rw [e]
    simp only [firstNZ, if_true]
  · rw [if_neg h1, decide_eq_true_eq]
    have e : cmpI a.2 b.2 = (if a.2 < b.2 then -1 else 1) := by 
      unfold cmpI
      split
      · rfl
      · rw [if_pos (by omega)]
    rw [e]
    simp only [firstNZ]
    split <;> simp [*]
theorem rfirst_any (a b : Al) (w : World) : Calls Try.prog 71 #[alV a, alV b] w fun e w' => e = .returned (.bool (decide (aLt a b))) ∧ Ext w w' := by
  rw [← first_is]
  obtain ⟨r, hr⟩ : ∃ r, cmpN a.1 b.1 = r := ⟨_, rfl⟩
  have HR := hid_mk hr
  rw [hr]
  clear hr
  by_cases h1 : a.2 = b.2
  · rw [if_pos h1]
    go_enter Try.func71, Try.ntmps71
    go_wp2_with fail
    refine (rcompareNames_any a.1 b.1 _).mono ?_
    rintro e w1 ⟨rfl, hx⟩
    rw [HR.out]
    have HX := hid_mk (Ext.trans w _ _ (by (repeat (first | exact Ext.refl _ | apply Ext.drew_left | apply Ext.drew | apply Ext.alloc))) hx)
    clear hx
    go_wp2
    go_ret
    exact ⟨rfl, HX.out⟩
  · rw [if_neg h1]
    go_enter Try.func71, Try.ntmps71
    go_wp2
    go_ret
    exact ⟨rfl, by (repeat (first | exact Ext.refl _ | apply Ext.drew_left | apply Ext.drew | apply Ext.alloc))⟩
theorem eql_nm (w : World) (a b : Nm) : (binOp .eql 54 (nmV a) (nmV b)).run Try.prog w = .ok (.bool (decide (a = b))) w := by
  obtain ⟨a1, a2, a3⟩ := a
  obtain ⟨b1, b2, b3⟩ := b
  simp only [nmV]
  go_simp
  by_cases h1 : a1 = b1 <;> by_cases h2 : a2 = b2 <;> by_cases h3 : a3 = b3 <;> simp [*]
theorem neq_nm (w : World) (a b : Nm) : (binOp .neq 54 (nmV a) (nmV b)).run Try.prog w = .ok (.bool (decide (¬ a = b))) w := by
  obtain ⟨a1, a2, a3⟩ := a
  obtain ⟨b1, b2, b3⟩ := b
  simp only [nmV]
  go_simp
  by_cases h1 : a1 = b1 <;> by_cases h2 : a2 = b2 <;> by_cases h3 : a3 = b3 <;> simp [*]
theorem key_nm : KeyOK Try.prog 54 nmV where
  chk := fun b a w => by
    obtain ⟨a1, a2, a3⟩ := a
    cases b <;> rfl
  eql := fun a b w => by
    obtain ⟨a1, a2, a3⟩ := a
    obtain ⟨b1, b2, b3⟩ := b
    simp only [nmV, Op.equal, Op.maxDepth]
    go_simp
    by_cases h1 : a1 = b1 <;> by_cases h2 : a2 = b2 <;> by_cases h3 : a3 = b3 <;> simp [*]
  now := ⟨_, Try.underlying54, fun a b => rfl⟩
  bits := fun a => by
    obtain ⟨a1, a2, a3⟩ := a
    simp [nmV, Instr.sameBits]
end Go.Proofs.Ytiimoaplhhnklaa
