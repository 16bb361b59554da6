import Derived.Test.YtgglbohcnlcagaaT1
namespace Go.Proofs.Ytgglbohcnlcagaa
open Go.RowKit
set_option maxHeartbeats 1000000
set_option linter.unusedSimpArgs false
set_option linter.unusedVariables false

attribute [local go_sem ↓] eql_name neq_name

theorem firstNZ_drop (xs : List Int) (k : Nat) (h : k < xs.length) : firstNZ (xs.drop k) = if xs.getD k 0 = 0 then firstNZ (xs.drop (k+1)) else xs.getD k 0 := by
  rw [List.drop_eq_getElem_cons h]; simp [firstNZ, List.getD_eq_getElem?_getD, h]

theorem cmpOr_any (b off cap : Nat) (xs : List Int) (w : World) (hlen : xs.length ≤ 1000) (hc : ∀ i, i < xs.length → w.cell? ⟨b, off+i, none⟩ = some (.int .i64 (xs.getD i 0))) :
    Calls Try.prog 73 #[.slice (some ⟨b, off, none⟩) xs.length cap] w fun e w' => e = .returned (.int .i64 (firstNZ xs)) ∧ w = w' := by
  go_enter Try.func73, Try.ntmps73
  go_wp2
  go_loop [8] (fun i => ∃ k : Nat, k ≤ xs.length ∧ i = .int .i64 k ∧ firstNZ xs = firstNZ (xs.drop k)) (fun i => xs.length - (intOf i).toNat)
  case atStart => exact ⟨0, Nat.zero_le _, rfl, by simp⟩
  case round =>
    obtain ⟨k, hk, rfl, hf⟩ := hrel
    have HF : Hid (firstNZ xs = firstNZ (xs.drop k)) := hf
    clear hf
    by_cases hlt : k < xs.length
    · have hcell := hc k hlt
      have HS : Hid (firstNZ (xs.drop k) = if xs.getD k 0 = 0 then firstNZ (xs.drop (k+1)) else xs.getD k 0) := firstNZ_drop xs k hlt
      clear hc
      by_cases hz : xs.getD k 0 = 0
      · rw [hz] at hcell
        have HZ : Hid (xs.getD k 0 = 0) := hz
        clear hz
        go_wp2
        go_round
        case rel => exact ⟨k+1, by omega, by go_num, by rw [HF.out, HS.out, if_pos HZ.out]⟩
        case measure => simp [intOf]; omega
      · generalize xs.getD k 0 = z at *
        go_wp2
        go_ret
        refine ⟨?_, rfl⟩
        rw [HF.out, HS.out, if_neg hz]; rfl
    · go_wp2
      go_ret
      refine ⟨?_, rfl⟩
      rw [HF.out, List.drop_of_length_le (by omega)]; rfl

theorem cmpOr3 (b cap : Nat) (x y z : Int) (w : World) (h0 : w.cell? ⟨b, 0, none⟩ = some (.int .i64 x)) (h1 : w.cell? ⟨b, 1, none⟩ = some (.int .i64 y)) (h2 : w.cell? ⟨b, 2, none⟩ = some (.int .i64 z)) :
    Calls Try.prog 73 #[.slice (some ⟨b, 0, none⟩) 3 cap] w fun e w' => e = .returned (.int .i64 (firstNZ [x, y, z])) ∧ w = w' :=
  cmpOr_any b 0 cap [x, y, z] w (by simp) (fun i hi => by
    match i, hi with
    | 0, _ => exact h0
    | 1, _ => exact h1
    | 2, _ => exact h2)

def cmpN (a b c x y z : Int) : Int := firstNZ [cmpI a x, cmpI b y, cmpI c z]
theorem cmpN_def (a b c x y z : Int) : cmpN a b c x y z = firstNZ [cmpI a x, cmpI b y, cmpI c z] := rfl

theorem compareNames_any (a b c x y z : Int) (w : World) : Calls Try.prog 19 #[.agg #[.int .i64 a, .int .i64 b, .int .i64 c], .agg #[.int .i64 x, .int .i64 y, .int .i64 z]] w fun e w' =>
    e = .returned (.int .i64 (cmpN a b c x y z)) ∧ Ext w w' := by
  rw [cmpN_def]
  go_enter Try.func19, Try.ntmps19
  go_wp2
  refine wp_region_held_below (fun _ => true) (.quiet 0 (.quiet 1 (.quiet 2 (.quiet 3 (.quiet 4 (.quiet 5 (.quiet 6 (.quiet 7 (.quiet 8 (.quiet 9 (.quiet 10 (.quiet 11 (.quiet 12 (.quiet 13 (.quiet 14 (.alt 15 (.quiet 16 (.quiet 17 .done)) .stop)))))))))))))))) (by kernel_rfl) (by kernel_rfl) (by intro c a w d v h; cases d <;> exact h) (fun ops HO => ?_)
  refine plan_read _ (hi_of HO rfl) rfl (fun w' hE => by have hcE := hE.hc; clear hE; go_simp; rfl) ?_
  simp only [Act.put, List.setIfInBounds_toArray, List.set_cons_succ, List.set_cons_zero]
  refine plan_read _ (hi_of HO rfl) rfl (fun w' hE => by have hcE := hE.hc; clear hE; go_simp; rfl) ?_
  simp only [Act.put, List.setIfInBounds_toArray, List.set_cons_succ, List.set_cons_zero]
  refine plan_read _ (hi_of HO rfl) rfl (fun w' hE => by have hcE := hE.hc; clear hE; go_simp; rfl) ?_
  simp only [Act.put, List.setIfInBounds_toArray, List.set_cons_succ, List.set_cons_zero]
  refine plan_read _ (hi_of HO rfl) rfl (fun w' hE => by have hcE := hE.hc; clear hE; go_simp; rfl) ?_
  simp only [Act.put, List.setIfInBounds_toArray, List.set_cons_succ, List.set_cons_zero]
  refine plan_pure _ en74 (hi_of HO rfl) rfl rfl (by go_simp; rfl) (fun w' hE => by exact cmpCompare_any _ _ _) ?_
  simp only [Act.put, List.setIfInBounds_toArray, List.set_cons_succ, List.set_cons_zero]
  refine plan_read _ (hi_of HO rfl) rfl (fun w' hE => by have hcE := hE.hc; clear hE; go_simp; rfl) ?_
  simp only [Act.put, List.setIfInBounds_toArray, List.set_cons_succ, List.set_cons_zero]
  refine plan_read _ (hi_of HO rfl) rfl (fun w' hE => by have hcE := hE.hc; clear hE; go_simp; rfl) ?_
  simp only [Act.put, List.setIfInBounds_toArray, List.set_cons_succ, List.set_cons_zero]
  refine plan_read _ (hi_of HO rfl) rfl (fun w' hE => by have hcE := hE.hc; clear hE; go_simp; rfl) ?_
  simp only [Act.put, List.setIfInBounds_toArray, List.set_cons_succ, List.set_cons_zero]
  refine plan_read _ (hi_of HO rfl) rfl (fun w' hE => by have hcE := hE.hc; clear hE; go_simp; rfl) ?_
  simp only [Act.put, List.setIfInBounds_toArray, List.set_cons_succ, List.set_cons_zero]
  refine plan_pure _ en74 (hi_of HO rfl) rfl rfl (by go_simp; rfl) (fun w' hE => by exact cmpCompare_any _ _ _) ?_
  simp only [Act.put, List.setIfInBounds_toArray, List.set_cons_succ, List.set_cons_zero]
  refine plan_read _ (hi_of HO rfl) rfl (fun w' hE => by have hcE := hE.hc; clear hE; go_simp; rfl) ?_
  simp only [Act.put, List.setIfInBounds_toArray, List.set_cons_succ, List.set_cons_zero]
  refine plan_read _ (hi_of HO rfl) rfl (fun w' hE => by have hcE := hE.hc; clear hE; go_simp; rfl) ?_
  simp only [Act.put, List.setIfInBounds_toArray, List.set_cons_succ, List.set_cons_zero]
  refine plan_read _ (hi_of HO rfl) rfl (fun w' hE => by have hcE := hE.hc; clear hE; go_simp; rfl) ?_
  simp only [Act.put, List.setIfInBounds_toArray, List.set_cons_succ, List.set_cons_zero]
  refine plan_read _ (hi_of HO rfl) rfl (fun w' hE => by have hcE := hE.hc; clear hE; go_simp; rfl) ?_
  simp only [Act.put, List.setIfInBounds_toArray, List.set_cons_succ, List.set_cons_zero]
  refine plan_pure _ en74 (hi_of HO rfl) rfl rfl (by go_simp; rfl) (fun w' hE => by exact cmpCompare_any _ _ _) ?_
  simp only [Act.put, List.setIfInBounds_toArray, List.set_cons_succ, List.set_cons_zero]
  refine plan_loud1 (hi_of HO rfl) rfl ?_
  go_simp
  refine ⟨by (repeat (first | exact Ext.refl _ | apply Ext.drew_left | apply Ext.drew | apply Ext.alloc)), ?_⟩
  refine plan_pure _ en73 (hi_of HO rfl) rfl rfl (by go_simp; rfl) (fun w' hE => by exact cmpOr3 _ _ _ _ _ _ (by have hcE := hE.hc; clear hE; go_simp; rfl) (by have hcE := hE.hc; clear hE; go_simp; rfl) (by have hcE := hE.hc; clear hE; go_simp; rfl)) ?_
  simp only [Act.put, List.setIfInBounds_toArray, List.set_cons_succ, List.set_cons_zero]
  refine plan_read _ (hi_of HO rfl) rfl (fun w' hE => by have hcE := hE.hc; clear hE; go_simp; rfl) ?_
  simp only [Act.put, List.setIfInBounds_toArray, List.set_cons_succ, List.set_cons_zero]
  refine plan_done ?fin1
  go_wp2
  go_ret
  refine ⟨rfl, ?_⟩
  (repeat (first | exact Ext.refl _ | apply Ext.drew_left | apply Ext.drew | apply Ext.alloc))

theorem rcompareNames_any (a b c x y z : Int) (w : World) : Calls Try.prog 22 #[.agg #[.int .i64 a, .int .i64 b, .int .i64 c], .agg #[.int .i64 x, .int .i64 y, .int .i64 z]] w fun e w' =>
    e = .returned (.int .i64 (cmpN a b c x y z)) ∧ Ext w w' := by
  go_enter Try.func22, Try.ntmps22
  go_wp2_with (first | (go_at_call 76; refine (order_any _ _ _).mono ?_; rintro e w' ⟨rfl, rfl⟩))
  all_goals go_ret
  all_goals (refine ⟨?_, by (repeat (first | exact Ext.refl _ | apply Ext.drew_left | apply Ext.drew | apply Ext.alloc))⟩)
  all_goals (refine ret_int ?_; simp only [cmpN, firstNZ, cmpI]; (repeat' split) <;> first | rfl | omega | (simp at *; omega))

theorem cmpN_anti (a b c x y z : Int) : cmpN x y z a b c = - cmpN a b c x y z := by
  simp only [cmpN, firstNZ, cmpI]; (repeat' split) <;> omega
theorem cmpN_zero (a b c x y z : Int) : cmpN a b c x y z = 0 ↔ a = x ∧ b = y ∧ c = z := by
  simp only [cmpN, firstNZ, cmpI]; (repeat' split) <;> omega
theorem cmpN_le (a b c x y z : Int) : 0 ≤ cmpN a b c x y z ↔ (x < a ∨ x = a ∧ (y < b ∨ y = b ∧ z ≤ c)) := by
  simp only [cmpN, firstNZ, cmpI]; (repeat' split) <;> omega
theorem cmpN_bd (a b c x y z : Int) : -1 ≤ cmpN a b c x y z ∧ cmpN a b c x y z ≤ 1 := by
  simp only [cmpN, firstNZ, cmpI]; (repeat' split) <;> omega

theorem i64_wrap (n : Int) (h : -9223372036854775808 ≤ n) (h' : n ≤ 9223372036854775807) : IntKind.i64.wrap n = n := by
  rw [IntKind.wrap_i64]; omega
theorem cmpN_wrap (a b c x y z : Int) : IntKind.i64.wrap (-cmpN a b c x y z) = cmpN x y z a b c := by
  have h := cmpN_bd a b c x y z
  rw [cmpN_anti a b c x y z]
  exact i64_wrap _ (by omega) (by omega)
theorem cmpN_bool (a b c x y z : Int) : (!(cmpN a b c x y z == 0) == (decide (a = x) && (decide (b = y) && decide (c = z)))) = false := by
  have h := cmpN_zero a b c x y z
  by_cases h1 : a = x <;> by_cases h2 : b = y <;> by_cases h3 : c = z <;> simp_all
theorem cmpN_t1 {a b c x y z : Int} (p q r : Int) (h : cmpN a b c x y z = 0) : ((cmpN a b c p q r == 0) == (cmpN x y z p q r == 0)) = true := by
  obtain ⟨rfl, rfl, rfl⟩ := (cmpN_zero a b c x y z).1 h
  simp
theorem cmpN_t2 {a b c x y z p q r : Int} (h : 0 ≤ cmpN a b c x y z) (h' : 0 ≤ cmpN x y z p q r) (h0 : ¬ cmpN a b c x y z = 0) : (!cmpN a b c p q r == 0) = true := by
  have h1 := (cmpN_le _ _ _ _ _ _).1 h
  have h2 := (cmpN_le _ _ _ _ _ _).1 h'
  have h3 : ¬ (a = x ∧ b = y ∧ c = z) := fun e => h0 ((cmpN_zero _ _ _ _ _ _).2 e)
  have h4 := cmpN_zero a b c p q r
  simp only [Bool.not_eq_true', beq_eq_false_iff_ne, ne_eq, h4]
  omega
theorem cmpN_t3 {a b c x y z p q r : Int} (h : 0 ≤ cmpN a b c x y z) (h' : 0 ≤ cmpN x y z p q r) : ¬ cmpN a b c p q r < 0 := by
  have h1 := (cmpN_le _ _ _ _ _ _).1 h
  have h2 := (cmpN_le _ _ _ _ _ _).1 h'
  have h4 := (cmpN_le a b c p q r).2 (by omega)
  omega

theorem frameNames_walk (a b c x y z p q r : Int) (w : World) : Calls Try.prog 4 #[.agg #[.int .i64 a, .int .i64 b, .int .i64 c], .agg #[.int .i64 x, .int .i64 y, .int .i64 z], .agg #[.int .i64 p, .int .i64 q, .int .i64 r]] w fun e w' =>
    e = .returned (.bool true) ∧ Ext w w' := by
  go_enter Try.func4, Try.ntmps4
  go_wp2_with fail
  refine (compareNames_any _ _ _ _ _ _ _).mono ?_
  rintro e w1 ⟨rfl, hx1⟩
  have hc1 := hx1.hc; have hl1 := hx1.hl; have he1 := hx1.hle; have hn1 := hx1.hne; replace hx1 := Hid.mk' hx1
  go_wp2_with fail
  refine (compareNames_any _ _ _ _ _ _ _).mono ?_
  rintro e w2 ⟨rfl, hx2⟩
  replace hx2 := Ext.trans _ _ _ hx1.out hx2
  clear hc1 hl1 he1 hn1
  have hc2 := hx2.hc; have hl2 := hx2.hl; have he2 := hx2.hle; have hn2 := hx2.hne; replace hx2 := Hid.mk' hx2
  go_wp2_with fail
  refine (compareNames_any _ _ _ _ _ _ _).mono ?_
  rintro e w3 ⟨rfl, hx3⟩
  replace hx3 := Ext.trans _ _ _ hx2.out hx3
  clear hc2 hl2 he2 hn2
  have hc3 := hx3.hc; have hl3 := hx3.hl; have he3 := hx3.hle; have hn3 := hx3.hne; replace hx3 := Hid.mk' hx3
  go_wp2_with fail
  refine wp_region_held_below (fun _ => true) (.quiet 0 (.quiet 2 (.alt 1 (.alt 3 (.quiet 4 (.quiet 5 (.quiet 6 (.quiet 7 (.quiet 8 (.alt 9 (.quiet 10 (.quiet 11 (.quiet 12 (.quiet 13 (.quiet 14 (.quiet 16 (.quiet 17 (.alt 15 (.quiet 18 (.quiet 19 (.quiet 20 (.quiet 21 (.quiet 22 (.quiet 23 (.quiet 24 (.quiet 25 (.quiet 26 (.quiet 27 .done)))))))))) .stop)))))))) .stop)))))) .stop) .stop))) (by kernel_rfl) (by kernel_rfl) (by intro c a w d v h; cases d <;> exact h) (fun ops HO => ?_)
  refine plan_read _ (hi_of HO rfl) rfl (fun w' hE => by have hcE := (Ext.trans _ _ _ (by (repeat (first | exact hx3.out | apply Ext.drew | apply Ext.alloc))) hE).hc; have hcF := hE.hc; clear hE; go_simp; rfl) ?_
  simp only [Act.put, List.setIfInBounds_toArray, List.set_cons_succ, List.set_cons_zero]
  refine plan_read _ (hi_of HO rfl) rfl (fun w' hE => by have hcE := (Ext.trans _ _ _ (by (repeat (first | exact hx3.out | apply Ext.drew | apply Ext.alloc))) hE).hc; have hcF := hE.hc; clear hE; go_simp; rfl) ?_
  simp only [Act.put, List.setIfInBounds_toArray, List.set_cons_succ, List.set_cons_zero]
  refine plan_call1 en20 (hi_of HO rfl) rfl rfl (by go_simp; rfl) (by exact (checkName_any _ _ _ _)) ?_
  rintro e v2 ⟨rfl, hx2⟩
  refine ⟨_, rfl, fun _ => hx2, ?_⟩
  replace hx2 := Ext.trans _ _ _ (by (repeat (first | exact hx3.out | apply Ext.drew | apply Ext.alloc))) hx2
  clear hc3 hl3 he3 hn3
  have hc2 := hx2.hc; have hl2 := hx2.hl; have he2 := hx2.hle; have hn2 := hx2.hne; replace hx2 := Hid.mk' hx2
  simp only [Act.put, List.setIfInBounds_toArray, List.set_cons_succ, List.set_cons_zero]
  refine plan_call1 en21 (hi_of HO rfl) rfl rfl (by go_simp; rfl) (by exact (rcheckName_any _ _ _ _)) ?_
  rintro e v3 ⟨rfl, hx3⟩
  refine ⟨_, rfl, fun _ => hx3, ?_⟩
  replace hx3 := Ext.trans _ _ _ (by (repeat (first | exact hx2.out | apply Ext.drew | apply Ext.alloc))) hx3
  clear hc2 hl2 he2 hn2
  have hc3 := hx3.hc; have hl3 := hx3.hl; have he3 := hx3.hle; have hn3 := hx3.hne; replace hx3 := Hid.mk' hx3
  simp only [Act.put, List.setIfInBounds_toArray, List.set_cons_succ, List.set_cons_zero]
  refine plan_read _ (hi_of HO rfl) rfl (fun w' hE => by have hcE := (Ext.trans _ _ _ (by (repeat (first | exact hx3.out | apply Ext.drew | apply Ext.alloc))) hE).hc; have hcF := hE.hc; clear hE; go_simp; rfl) ?_
  simp only [Act.put, List.setIfInBounds_toArray, List.set_cons_succ, List.set_cons_zero]
  refine plan_boolc _ (hi_of HO rfl) rfl (fun w' hE => by have hcE := (Ext.trans _ _ _ (by (repeat (first | exact hx3.out | apply Ext.drew | apply Ext.alloc))) hE).hc; have hcF := hE.hc; clear hE; go_simp; rfl) ?hF4 ?hT4
  case' hF4 =>
    intro hb4
    simp only [Act.put, List.setIfInBounds_toArray, List.set_cons_succ, List.set_cons_zero]
    refine plan_read _ (hi_of HO rfl) (by rw [HO.out]; rfl) (fun w' hE => by have hcE := (Ext.trans _ _ _ (by (repeat (first | exact hx3.out | apply Ext.drew | apply Ext.alloc))) hE).hc; have hcF := hE.hc; clear hE; go_simp; rfl) ?_
    simp only [Act.put, List.setIfInBounds_toArray, List.set_cons_succ, List.set_cons_zero]
    refine plan_read _ (hi_of HO rfl) (by rw [HO.out]; rfl) (fun w' hE => by have hcE := (Ext.trans _ _ _ (by (repeat (first | exact hx3.out | apply Ext.drew | apply Ext.alloc))) hE).hc; have hcF := hE.hc; clear hE; go_simp; rfl) ?_
    simp only [Act.put, List.setIfInBounds_toArray, List.set_cons_succ, List.set_cons_zero]
    refine plan_read _ (hi_of HO rfl) (by rw [HO.out]; rfl) (fun w' hE => by have hcE := (Ext.trans _ _ _ (by (repeat (first | exact hx3.out | apply Ext.drew | apply Ext.alloc))) hE).hc; have hcF := hE.hc; clear hE; go_simp; rfl) ?_
    simp only [Act.put, List.setIfInBounds_toArray, List.set_cons_succ, List.set_cons_zero]
    refine plan_call1 en22 (hi_of HO rfl) (by rw [HO.out]; rfl) rfl (by go_simp; rfl) (by exact (rcompareNames_any _ _ _ _ _ _ _)) ?_
    rintro e v5 ⟨rfl, hx5⟩
    refine ⟨_, rfl, fun _ => hx5, ?_⟩
    replace hx5 := Ext.trans _ _ _ (by (repeat (first | exact hx3.out | apply Ext.drew | apply Ext.alloc))) hx5
    clear hc3 hl3 he3 hn3
    have hc5 := hx5.hc; have hl5 := hx5.hl; have he5 := hx5.hle; have hn5 := hx5.hne; replace hx5 := Hid.mk' hx5
    simp only [Act.put, List.setIfInBounds_toArray, List.set_cons_succ, List.set_cons_zero]
    refine plan_read _ (hi_of HO rfl) (by rw [HO.out]; rfl) (fun w' hE => by have hcE := (Ext.trans _ _ _ (by (repeat (first | exact hx5.out | apply Ext.drew | apply Ext.alloc))) hE).hc; have hcF := hE.hc; clear hE; go_simp; rfl) ?_
    simp only [Act.put, List.setIfInBounds_toArray, List.set_cons_succ, List.set_cons_zero]
    refine plan_read _ (hi_of HO rfl) rfl (fun w' hE => by have hcE := (Ext.trans _ _ _ (by (repeat (first | exact hx5.out | apply Ext.drew | apply Ext.alloc))) hE).hc; have hcF := hE.hc; clear hE; go_simp; rfl) ?_
    simp only [Act.put, List.setIfInBounds_toArray, List.set_cons_succ, List.set_cons_zero]
    refine plan_boolc _ (hi_of HO rfl) rfl (fun w' hE => by have hcE := (Ext.trans _ _ _ (by (repeat (first | exact hx5.out | apply Ext.drew | apply Ext.alloc))) hE).hc; have hcF := hE.hc; clear hE; go_simp; rfl) ?hF6 ?hT6
    case' hF6 =>
      intro hb6
      simp only [Act.put, List.setIfInBounds_toArray, List.set_cons_succ, List.set_cons_zero]
      refine plan_read _ (hi_of HO rfl) (by rw [HO.out]; rfl) (fun w' hE => by have hcE := (Ext.trans _ _ _ (by (repeat (first | exact hx5.out | apply Ext.drew | apply Ext.alloc))) hE).hc; have hcF := hE.hc; clear hE; go_simp; rfl) ?_
      simp only [Act.put, List.setIfInBounds_toArray, List.set_cons_succ, List.set_cons_zero]
      refine plan_read _ (hi_of HO rfl) (by rw [HO.out]; rfl) (fun w' hE => by have hcE := (Ext.trans _ _ _ (by (repeat (first | exact hx5.out | apply Ext.drew | apply Ext.alloc))) hE).hc; have hcF := hE.hc; clear hE; go_simp; rfl) ?_
      simp only [Act.put, List.setIfInBounds_toArray, List.set_cons_succ, List.set_cons_zero]
      refine plan_read _ (hi_of HO rfl) (by rw [HO.out]; rfl) (fun w' hE => by have hcE := (Ext.trans _ _ _ (by (repeat (first | exact hx5.out | apply Ext.drew | apply Ext.alloc))) hE).hc; have hcF := hE.hc; clear hE; go_simp; rfl) ?_
      simp only [Act.put, List.setIfInBounds_toArray, List.set_cons_succ, List.set_cons_zero]
      refine plan_read _ (hi_of HO rfl) (by rw [HO.out]; rfl) (fun w' hE => by have hcE := (Ext.trans _ _ _ (by (repeat (first | exact hx5.out | apply Ext.drew | apply Ext.alloc))) hE).hc; have hcF := hE.hc; clear hE; go_simp; rfl) ?_
      simp only [Act.put, List.setIfInBounds_toArray, List.set_cons_succ, List.set_cons_zero]
      refine plan_call1 en19 (hi_of HO rfl) (by rw [HO.out]; rfl) rfl (by go_simp; rfl) (by exact (compareNames_any _ _ _ _ _ _ _)) ?_
      rintro e v7 ⟨rfl, hx7⟩
      refine ⟨_, rfl, fun _ => hx7, ?_⟩
      replace hx7 := Ext.trans _ _ _ (by (repeat (first | exact hx5.out | apply Ext.drew | apply Ext.alloc))) hx7
      clear hc5 hl5 he5 hn5
      have hc7 := hx7.hc; have hl7 := hx7.hl; have he7 := hx7.hle; have hn7 := hx7.hne; replace hx7 := Hid.mk' hx7
      simp only [Act.put, List.setIfInBounds_toArray, List.set_cons_succ, List.set_cons_zero]
      refine plan_read _ (hi_of HO rfl) (by rw [HO.out]; rfl) (fun w' hE => by have hcE := (Ext.trans _ _ _ (by (repeat (first | exact hx7.out | apply Ext.drew | apply Ext.alloc))) hE).hc; have hcF := hE.hc; clear hE; go_simp; rfl) ?_
      simp only [Act.put, List.setIfInBounds_toArray, List.set_cons_succ, List.set_cons_zero]
      refine plan_read _ (hi_of HO rfl) rfl (fun w' hE => by have hcE := (Ext.trans _ _ _ (by (repeat (first | exact hx7.out | apply Ext.drew | apply Ext.alloc))) hE).hc; have hcF := hE.hc; clear hE; go_simp; rfl) ?_
      simp only [Act.put, List.setIfInBounds_toArray, List.set_cons_succ, List.set_cons_zero]
      refine plan_boolc _ (hi_of HO rfl) rfl (fun w' hE => by have hcE := (Ext.trans _ _ _ (by (repeat (first | exact hx7.out | apply Ext.drew | apply Ext.alloc))) hE).hc; have hcF := hE.hc; clear hE; go_simp; rfl) ?hF8 ?hT8
      case' hF8 =>
        intro hb8
        simp only [Act.put, List.setIfInBounds_toArray, List.set_cons_succ, List.set_cons_zero]
        refine plan_read _ (hi_of HO rfl) (by rw [HO.out]; rfl) (fun w' hE => by have hcE := (Ext.trans _ _ _ (by (repeat (first | exact hx7.out | apply Ext.drew | apply Ext.alloc))) hE).hc; have hcF := hE.hc; clear hE; go_simp; rfl) ?_
        simp only [Act.put, List.setIfInBounds_toArray, List.set_cons_succ, List.set_cons_zero]
        refine plan_read _ (hi_of HO rfl) (by rw [HO.out]; rfl) (fun w' hE => by have hcE := (Ext.trans _ _ _ (by (repeat (first | exact hx7.out | apply Ext.drew | apply Ext.alloc))) hE).hc; have hcF := hE.hc; clear hE; go_simp; rfl) ?_
        simp only [Act.put, List.setIfInBounds_toArray, List.set_cons_succ, List.set_cons_zero]
        refine plan_read _ (hi_of HO rfl) (by rw [HO.out]; rfl) (fun w' hE => by have hcE := (Ext.trans _ _ _ (by (repeat (first | exact hx7.out | apply Ext.drew | apply Ext.alloc))) hE).hc; have hcF := hE.hc; clear hE; go_simp; rfl) ?_
        simp only [Act.put, List.setIfInBounds_toArray, List.set_cons_succ, List.set_cons_zero]
        refine plan_read _ (hi_of HO rfl) (by rw [HO.out]; rfl) (fun w' hE => by have hcE := (Ext.trans _ _ _ (by (repeat (first | exact hx7.out | apply Ext.drew | apply Ext.alloc))) hE).hc; have hcF := hE.hc; clear hE; go_simp; rfl) ?_
        simp only [Act.put, List.setIfInBounds_toArray, List.set_cons_succ, List.set_cons_zero]
        refine plan_read _ (hi_of HO rfl) (by rw [HO.out]; rfl) (fun w' hE => by have hcE := (Ext.trans _ _ _ (by (repeat (first | exact hx7.out | apply Ext.drew | apply Ext.alloc))) hE).hc; have hcF := hE.hc; clear hE; go_simp; rfl) ?_
        simp only [Act.put, List.setIfInBounds_toArray, List.set_cons_succ, List.set_cons_zero]
        refine plan_read _ (hi_of HO rfl) (by rw [HO.out]; rfl) (fun w' hE => by have hcE := (Ext.trans _ _ _ (by (repeat (first | exact hx7.out | apply Ext.drew | apply Ext.alloc))) hE).hc; have hcF := hE.hc; clear hE; go_simp; rfl) ?_
        simp only [Act.put, List.setIfInBounds_toArray, List.set_cons_succ, List.set_cons_zero]
        refine plan_read _ (hi_of HO rfl) rfl (fun w' hE => by have hcE := (Ext.trans _ _ _ (by (repeat (first | exact hx7.out | apply Ext.drew | apply Ext.alloc))) hE).hc; have hcF := hE.hc; clear hE; go_simp; rfl) ?_
        simp only [Act.put, List.setIfInBounds_toArray, List.set_cons_succ, List.set_cons_zero]
        refine plan_done ?fin9
      case' hT8 =>
        intro hb8
        simp only [Act.put, List.setIfInBounds_toArray, List.set_cons_succ, List.set_cons_zero]
        refine plan_skip (hi_of HO rfl) (by rw [HO.out]; rfl) ?_
        simp only [Act.put, List.setIfInBounds_toArray, List.set_cons_succ, List.set_cons_zero]
        refine plan_skip (hi_of HO rfl) (by rw [HO.out]; rfl) ?_
        simp only [Act.put, List.setIfInBounds_toArray, List.set_cons_succ, List.set_cons_zero]
        refine plan_skip (hi_of HO rfl) (by rw [HO.out]; rfl) ?_
        simp only [Act.put, List.setIfInBounds_toArray, List.set_cons_succ, List.set_cons_zero]
        refine plan_skip (hi_of HO rfl) (by rw [HO.out]; rfl) ?_
        simp only [Act.put, List.setIfInBounds_toArray, List.set_cons_succ, List.set_cons_zero]
        refine plan_skip (hi_of HO rfl) (by rw [HO.out]; rfl) ?_
        simp only [Act.put, List.setIfInBounds_toArray, List.set_cons_succ, List.set_cons_zero]
        refine plan_skip (hi_of HO rfl) (by rw [HO.out]; rfl) ?_
        simp only [Act.put, List.setIfInBounds_toArray, List.set_cons_succ, List.set_cons_zero]
        refine plan_read _ (hi_of HO rfl) rfl (fun w' hE => by have hcE := (Ext.trans _ _ _ (by (repeat (first | exact hx7.out | apply Ext.drew | apply Ext.alloc))) hE).hc; have hcF := hE.hc; clear hE; go_simp; rfl) ?_
        simp only [Act.put, List.setIfInBounds_toArray, List.set_cons_succ, List.set_cons_zero]
        refine plan_done ?fin10
    case' hT6 =>
      intro hb6
      simp only [Act.put, List.setIfInBounds_toArray, List.set_cons_succ, List.set_cons_zero]
      refine plan_skip (hi_of HO rfl) (by rw [HO.out]; rfl) ?_
      simp only [Act.put, List.setIfInBounds_toArray, List.set_cons_succ, List.set_cons_zero]
      refine plan_skip (hi_of HO rfl) (by rw [HO.out]; rfl) ?_
      simp only [Act.put, List.setIfInBounds_toArray, List.set_cons_succ, List.set_cons_zero]
      refine plan_skip (hi_of HO rfl) (by rw [HO.out]; rfl) ?_
      simp only [Act.put, List.setIfInBounds_toArray, List.set_cons_succ, List.set_cons_zero]
      refine plan_skip (hi_of HO rfl) (by rw [HO.out]; rfl) ?_
      simp only [Act.put, List.setIfInBounds_toArray, List.set_cons_succ, List.set_cons_zero]
      refine plan_skip1 (hi_of HO rfl) (by rw [HO.out]; rfl) (Ext.refl _) ?_
      simp only [Act.put, List.setIfInBounds_toArray, List.set_cons_succ, List.set_cons_zero]
      refine plan_skip (hi_of HO rfl) (by rw [HO.out]; rfl) ?_
      simp only [Act.put, List.setIfInBounds_toArray, List.set_cons_succ, List.set_cons_zero]
      refine plan_read _ (hi_of HO rfl) rfl (fun w' hE => by have hcE := (Ext.trans _ _ _ (by (repeat (first | exact hx5.out | apply Ext.drew | apply Ext.alloc))) hE).hc; have hcF := hE.hc; clear hE; go_simp; rfl) ?_
      simp only [Act.put, List.setIfInBounds_toArray, List.set_cons_succ, List.set_cons_zero]
      refine plan_read _ (hi_of HO rfl) rfl (fun w' hE => by have hcE := (Ext.trans _ _ _ (by (repeat (first | exact hx5.out | apply Ext.drew | apply Ext.alloc))) hE).hc; have hcF := hE.hc; clear hE; go_simp; rfl) ?_
      simp only [Act.put, List.setIfInBounds_toArray, List.set_cons_succ, List.set_cons_zero]
      refine plan_skip (hi_of HO rfl) (by rw [HO.out]; rfl) ?_
      simp only [Act.put, List.setIfInBounds_toArray, List.set_cons_succ, List.set_cons_zero]
      refine plan_skip (hi_of HO rfl) (by rw [HO.out]; rfl) ?_
      simp only [Act.put, List.setIfInBounds_toArray, List.set_cons_succ, List.set_cons_zero]
      refine plan_skip (hi_of HO rfl) (by rw [HO.out]; rfl) ?_
      simp only [Act.put, List.setIfInBounds_toArray, List.set_cons_succ, List.set_cons_zero]
      refine plan_skip (hi_of HO rfl) (by rw [HO.out]; rfl) ?_
      simp only [Act.put, List.setIfInBounds_toArray, List.set_cons_succ, List.set_cons_zero]
      refine plan_skip (hi_of HO rfl) (by rw [HO.out]; rfl) ?_
      simp only [Act.put, List.setIfInBounds_toArray, List.set_cons_succ, List.set_cons_zero]
      refine plan_skip (hi_of HO rfl) (by rw [HO.out]; rfl) ?_
      simp only [Act.put, List.setIfInBounds_toArray, List.set_cons_succ, List.set_cons_zero]
      refine plan_read _ (hi_of HO rfl) rfl (fun w' hE => by have hcE := (Ext.trans _ _ _ (by (repeat (first | exact hx5.out | apply Ext.drew | apply Ext.alloc))) hE).hc; have hcF := hE.hc; clear hE; go_simp; rfl) ?_
      simp only [Act.put, List.setIfInBounds_toArray, List.set_cons_succ, List.set_cons_zero]
      refine plan_done ?fin11
  case' hT4 =>
    intro hb4
    simp only [Act.put, List.setIfInBounds_toArray, List.set_cons_succ, List.set_cons_zero]
    refine plan_skip (hi_of HO rfl) (by rw [HO.out]; rfl) ?_
    simp only [Act.put, List.setIfInBounds_toArray, List.set_cons_succ, List.set_cons_zero]
    refine plan_skip (hi_of HO rfl) (by rw [HO.out]; rfl) ?_
    simp only [Act.put, List.setIfInBounds_toArray, List.set_cons_succ, List.set_cons_zero]
    refine plan_skip (hi_of HO rfl) (by rw [HO.out]; rfl) ?_
    simp only [Act.put, List.setIfInBounds_toArray, List.set_cons_succ, List.set_cons_zero]
    refine plan_skip1 (hi_of HO rfl) (by rw [HO.out]; rfl) (Ext.refl _) ?_
    simp only [Act.put, List.setIfInBounds_toArray, List.set_cons_succ, List.set_cons_zero]
    refine plan_skip (hi_of HO rfl) (by rw [HO.out]; rfl) ?_
    simp only [Act.put, List.setIfInBounds_toArray, List.set_cons_succ, List.set_cons_zero]
    refine plan_read _ (hi_of HO rfl) rfl (fun w' hE => by have hcE := (Ext.trans _ _ _ (by (repeat (first | exact hx3.out | apply Ext.drew | apply Ext.alloc))) hE).hc; have hcF := hE.hc; clear hE; go_simp; rfl) ?_
    simp only [Act.put, List.setIfInBounds_toArray, List.set_cons_succ, List.set_cons_zero]
    refine plan_read _ (hi_of HO rfl) rfl (fun w' hE => by have hcE := (Ext.trans _ _ _ (by (repeat (first | exact hx3.out | apply Ext.drew | apply Ext.alloc))) hE).hc; have hcF := hE.hc; clear hE; go_simp; rfl) ?_
    simp only [Act.put, List.setIfInBounds_toArray, List.set_cons_succ, List.set_cons_zero]
    refine plan_skip (hi_of HO rfl) (by rw [HO.out]; rfl) ?_
    simp only [Act.put, List.setIfInBounds_toArray, List.set_cons_succ, List.set_cons_zero]
    refine plan_skip (hi_of HO rfl) (by rw [HO.out]; rfl) ?_
    simp only [Act.put, List.setIfInBounds_toArray, List.set_cons_succ, List.set_cons_zero]
    refine plan_skip (hi_of HO rfl) (by rw [HO.out]; rfl) ?_
    simp only [Act.put, List.setIfInBounds_toArray, List.set_cons_succ, List.set_cons_zero]
    refine plan_skip (hi_of HO rfl) (by rw [HO.out]; rfl) ?_
    simp only [Act.put, List.setIfInBounds_toArray, List.set_cons_succ, List.set_cons_zero]
    refine plan_skip1 (hi_of HO rfl) (by rw [HO.out]; rfl) (Ext.refl _) ?_
    simp only [Act.put, List.setIfInBounds_toArray, List.set_cons_succ, List.set_cons_zero]
    refine plan_skip (hi_of HO rfl) (by rw [HO.out]; rfl) ?_
    simp only [Act.put, List.setIfInBounds_toArray, List.set_cons_succ, List.set_cons_zero]
    refine plan_read _ (hi_of HO rfl) rfl (fun w' hE => by have hcE := (Ext.trans _ _ _ (by (repeat (first | exact hx3.out | apply Ext.drew | apply Ext.alloc))) hE).hc; have hcF := hE.hc; clear hE; go_simp; rfl) ?_
    simp only [Act.put, List.setIfInBounds_toArray, List.set_cons_succ, List.set_cons_zero]
    refine plan_read _ (hi_of HO rfl) rfl (fun w' hE => by have hcE := (Ext.trans _ _ _ (by (repeat (first | exact hx3.out | apply Ext.drew | apply Ext.alloc))) hE).hc; have hcF := hE.hc; clear hE; go_simp; rfl) ?_
    simp only [Act.put, List.setIfInBounds_toArray, List.set_cons_succ, List.set_cons_zero]
    refine plan_skip (hi_of HO rfl) (by rw [HO.out]; rfl) ?_
    simp only [Act.put, List.setIfInBounds_toArray, List.set_cons_succ, List.set_cons_zero]
    refine plan_skip (hi_of HO rfl) (by rw [HO.out]; rfl) ?_
    simp only [Act.put, List.setIfInBounds_toArray, List.set_cons_succ, List.set_cons_zero]
    refine plan_skip (hi_of HO rfl) (by rw [HO.out]; rfl) ?_
    simp only [Act.put, List.setIfInBounds_toArray, List.set_cons_succ, List.set_cons_zero]
    refine plan_skip (hi_of HO rfl) (by rw [HO.out]; rfl) ?_
    simp only [Act.put, List.setIfInBounds_toArray, List.set_cons_succ, List.set_cons_zero]
    refine plan_skip (hi_of HO rfl) (by rw [HO.out]; rfl) ?_
    simp only [Act.put, List.setIfInBounds_toArray, List.set_cons_succ, List.set_cons_zero]
    refine plan_skip (hi_of HO rfl) (by rw [HO.out]; rfl) ?_
    simp only [Act.put, List.setIfInBounds_toArray, List.set_cons_succ, List.set_cons_zero]
    refine plan_read _ (hi_of HO rfl) rfl (fun w' hE => by have hcE := (Ext.trans _ _ _ (by (repeat (first | exact hx3.out | apply Ext.drew | apply Ext.alloc))) hE).hc; have hcF := hE.hc; clear hE; go_simp; rfl) ?_
    simp only [Act.put, List.setIfInBounds_toArray, List.set_cons_succ, List.set_cons_zero]
    refine plan_done ?fin12
  all_goals go_wp2
  all_goals go_ret
  all_goals (refine ⟨ret_bool ?_, Ext.trans _ _ _ (Ext.alloc (Ext.alloc (Ext.alloc (Ext.refl _) _) _) _) (by assumption : Hid _).out⟩)
  all_goals clear hx1
  all_goals first
    | rfl
    | (exfalso; simp at hb4; done)
    | (exfalso; simp at hb6; done)
    | (exfalso; rw [cmpN_wrap] at hb8; simp at hb8; done)
    | (exfalso; have h : (!(cmpN a b c x y z == 0) == (decide (a = x) && (decide (b = y) && decide (c = z)))) = true := by assumption
       rw [cmpN_bool] at h; simp at h; done)
    | (exact cmpN_t1 (a := a) (b := b) (c := c) (x := x) (y := y) (z := z) _ _ _ (by assumption))
    | (exact cmpN_t2 (a := a) (b := b) (c := c) (x := x) (y := y) (z := z) (by assumption) (by assumption) (by assumption))
    | (exfalso; have h : cmpN a b c p q r < 0 := by assumption
       exact cmpN_t3 (a := a) (b := b) (c := c) (x := x) (y := y) (z := z) (by assumption) (by assumption) h)
end Go.Proofs.Ytgglbohcnlcagaa
