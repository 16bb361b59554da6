/- Ghosts: are two lists the same; how much a list weighs. -/
import Derived.Test.YtiimoaplhhnklaaDoorHA
import Derived.Test.YtiimoaplhhnklaaDoorTX
import Derived.Lib.MinMax
namespace Go.Proofs.YtiimoaplhhnklaaDoor
open Go.RowKit
set_option maxHeartbeats 4000000
set_option maxRecDepth 100000
set_option linter.unusedSimpArgs false
set_option linter.unusedVariables false
attribute [local go_sem ↓] eql_entE neq_entE
theorem en_GhSame : Enters Tryd.prog 18 := ⟨_, Tryd.func18, by kernel_rfl, rfl⟩
theorem en_GhWeigh : Enters Tryd.prog 6 := ⟨_, Tryd.func6, by kernel_rfl, rfl⟩
theorem eq_of_take {l l' : List Ent} (hl : l.length = l'.length) (h : l.take l.length = l'.take l.length) : l = l' := by
  rw [List.take_length] at h
  rw [h, hl, List.take_length]
theorem ghSame_any {w : World} (v v' : Value) (l l' : List Ent) (hs : EntSl w v l) (hs' : EntSl w v' l') :
    Calls Tryd.prog 18 #[v, v'] w fun e w' => e = .returned (.bool (decide (l = l'))) ∧ Ext w w' := by
  obtain ⟨a, c, rfl, hac, ha63, hca⟩ := hs
  obtain ⟨a', c', rfl, hac', ha63', hca'⟩ := hs'
  have HC := hid_mk hca
  have HC' := hid_mk hca'
  clear hca hca'
  obtain ⟨r, hr⟩ : ∃ r, decide (l = l') = r := ⟨_, rfl⟩
  have HR := hid_mk hr
  rw [hr]
  clear hr
  by_cases hlen : l.length = l'.length
  · have hle : ((l.length : Int) == (l'.length : Int)) = true := by rw [hlen]; simp
    have hli : (l.length : Int) = (l'.length : Int) := by omega
    go_enter Tryd.func18, Tryd.ntmps18
    go_wp2_with fail
    go_loopw [5] (fun i wr => ∃ k : Nat, k ≤ l.length ∧ i = .int .i64 (k : Int) ∧ l.take k = l'.take k ∧ Ext w wr) (fun i _ => l.length - (intOf i).toNat)
    case atStart => exact ⟨0, Nat.zero_le _, rfl, by simp, Ext.refl _⟩
    case round =>
      obtain ⟨k, hk, rfl, hf, hx⟩ := hrel
      have HF := hid_mk hf
      have HX := hid_mk hx
      clear hf hx
      by_cases hlt : k < l.length
      · have hlt' : k < l'.length := by omega
        obtain ⟨b, o, rfl, hcl⟩ := HC.out (by omega)
        obtain ⟨b', o', rfl, hcl'⟩ := HC'.out (by omega)
        obtain ⟨a0, a1, a2, a3, a4⟩ := (hcl k hlt).ext HX.out
        obtain ⟨d0, d1, d2, d3, d4⟩ := (hcl' k hlt').ext HX.out
        have hbl := cell_lt a0
        have hdl := cell_lt d0
        have HT := hid_mk (show l.take (k + 1) = l.take k ++ [l[k]] from List.take_succ_eq_append_getElem hlt)
        have HT' := hid_mk (show l'.take (k + 1) = l'.take k ++ [l'[k]] from List.take_succ_eq_append_getElem hlt')
        have HG := hid_mk (show l = l' → l[k] = l'[k] from fun e => by subst e; rfl)
        obtain ⟨x, hx⟩ : ∃ x, l[k] = x := ⟨_, rfl⟩
        obtain ⟨y, hy⟩ : ∃ y, l'[k] = y := ⟨_, rfl⟩
        rw [hx] at a0 a1 a2 a3 a4 HT HG
        rw [hy] at d0 d1 d2 d3 d4 HT' HG
        have hk1 : (k : Int) < (l.length : Int) := by omega
        have hk2 : (k : Int) < (l'.length : Int) := by omega
        have hk0 : (0 : Int) ≤ (k : Int) := by omega
        have HW := hid_mk (show wrap64 ((k : Int) + 1) = (k : Int) + 1 from w64in (by omega))
        clear hcl hcl' hx hy
        by_cases hxy : x = y
        · have hne : decide (¬ x = y) = false := decide_eq_false (by simp [hxy])
          go_wp2_with fail
          refine wp_region_held_below (fun _ => true) (.quiet 0 (.quiet 1 (.quiet 2 (.quiet 3 (.quiet 4 (.quiet 5 (.quiet 6 (.quiet 7 (.quiet 8 .done))))))))) (by kernel_rfl) (by kernel_rfl) (by intro c a w d v h; cases d <;> exact h) (fun ops HO => ?_)
          refine plan_read _ (hi_of HO rfl) rfl (fun w' hE => by (repeat (with_reducible replace hE := Ext.unD hE)); have hcE := hE.hc; clear hE; go_simp; rfl) ?_
          simp only [Act.put, List.setIfInBounds_toArray, List.set_cons_succ, List.set_cons_zero]
          refine plan_read _ (hi_of HO rfl) rfl (fun w' hE => by (repeat (with_reducible replace hE := Ext.unD hE)); have hcE := hE.hc; clear hE; go_simp; rfl) ?_
          simp only [Act.put, List.setIfInBounds_toArray, List.set_cons_succ, List.set_cons_zero]
          refine plan_read _ (hi_of HO rfl) rfl (fun w' hE => by (repeat (with_reducible replace hE := Ext.unD hE)); have hcE := hE.hc; clear hE; go_simp; rfl) ?_
          simp only [Act.put, List.setIfInBounds_toArray, List.set_cons_succ, List.set_cons_zero]
          refine plan_read _ (hi_of HO rfl) rfl (fun w' hE => by (repeat (with_reducible replace hE := Ext.unD hE)); have hcE := hE.hc; clear hE; go_simp; rfl) ?_
          simp only [Act.put, List.setIfInBounds_toArray, List.set_cons_succ, List.set_cons_zero]
          refine plan_read _ (hi_of HO rfl) rfl (fun w' hE => by (repeat (with_reducible replace hE := Ext.unD hE)); have hcE := hE.hc; clear hE; go_simp; rfl) ?_
          simp only [Act.put, List.setIfInBounds_toArray, List.set_cons_succ, List.set_cons_zero]
          refine plan_read _ (hi_of HO rfl) rfl (fun w' hE => by (repeat (with_reducible replace hE := Ext.unD hE)); have hcE := hE.hc; clear hE; go_simp; rfl) ?_
          simp only [Act.put, List.setIfInBounds_toArray, List.set_cons_succ, List.set_cons_zero]
          refine plan_read _ (hi_of HO rfl) rfl (fun w' hE => by (repeat (with_reducible replace hE := Ext.unD hE)); have hcE := hE.hc; clear hE; go_simp; rfl) ?_
          simp only [Act.put, List.setIfInBounds_toArray, List.set_cons_succ, List.set_cons_zero]
          refine plan_read _ (hi_of HO rfl) rfl (fun w' hE => by (repeat (with_reducible replace hE := Ext.unD hE)); have hcE := hE.hc; clear hE; go_simp; rfl) ?_
          simp only [Act.put, List.setIfInBounds_toArray, List.set_cons_succ, List.set_cons_zero]
          refine plan_read _ (hi_of HO rfl) rfl (fun w' hE => by (repeat (with_reducible replace hE := Ext.unD hE)); have hcE := hE.hc; clear hE; go_simp; rfl) ?_
          simp only [Act.put, List.setIfInBounds_toArray, List.set_cons_succ, List.set_cons_zero]
          refine plan_done ?fin101
          go_wp2
          go_roundw
          case rel => exact ⟨k + 1, by omega, (by first | exact congrArg (Value.int .i64) HW.out | rfl), by rw [HT.out, HT'.out, HF.out, hxy], by first | exact HX.out | exact Ext.drew HX.out⟩
          case measure => (try simp only [HW.out]); simp [intOf]; omega
        · have hne : decide (¬ x = y) = true := decide_eq_true hxy
          go_wp2_with fail
          refine wp_region_held_below (fun _ => true) (.quiet 0 (.quiet 1 (.quiet 2 (.quiet 3 (.quiet 4 (.quiet 5 (.quiet 6 (.quiet 7 (.quiet 8 .done))))))))) (by kernel_rfl) (by kernel_rfl) (by intro c a w d v h; cases d <;> exact h) (fun ops HO => ?_)
          refine plan_read _ (hi_of HO rfl) rfl (fun w' hE => by (repeat (with_reducible replace hE := Ext.unD hE)); have hcE := hE.hc; clear hE; go_simp; rfl) ?_
          simp only [Act.put, List.setIfInBounds_toArray, List.set_cons_succ, List.set_cons_zero]
          refine plan_read _ (hi_of HO rfl) rfl (fun w' hE => by (repeat (with_reducible replace hE := Ext.unD hE)); have hcE := hE.hc; clear hE; go_simp; rfl) ?_
          simp only [Act.put, List.setIfInBounds_toArray, List.set_cons_succ, List.set_cons_zero]
          refine plan_read _ (hi_of HO rfl) rfl (fun w' hE => by (repeat (with_reducible replace hE := Ext.unD hE)); have hcE := hE.hc; clear hE; go_simp; rfl) ?_
          simp only [Act.put, List.setIfInBounds_toArray, List.set_cons_succ, List.set_cons_zero]
          refine plan_read _ (hi_of HO rfl) rfl (fun w' hE => by (repeat (with_reducible replace hE := Ext.unD hE)); have hcE := hE.hc; clear hE; go_simp; rfl) ?_
          simp only [Act.put, List.setIfInBounds_toArray, List.set_cons_succ, List.set_cons_zero]
          refine plan_read _ (hi_of HO rfl) rfl (fun w' hE => by (repeat (with_reducible replace hE := Ext.unD hE)); have hcE := hE.hc; clear hE; go_simp; rfl) ?_
          simp only [Act.put, List.setIfInBounds_toArray, List.set_cons_succ, List.set_cons_zero]
          refine plan_read _ (hi_of HO rfl) rfl (fun w' hE => by (repeat (with_reducible replace hE := Ext.unD hE)); have hcE := hE.hc; clear hE; go_simp; rfl) ?_
          simp only [Act.put, List.setIfInBounds_toArray, List.set_cons_succ, List.set_cons_zero]
          refine plan_read _ (hi_of HO rfl) rfl (fun w' hE => by (repeat (with_reducible replace hE := Ext.unD hE)); have hcE := hE.hc; clear hE; go_simp; rfl) ?_
          simp only [Act.put, List.setIfInBounds_toArray, List.set_cons_succ, List.set_cons_zero]
          refine plan_read _ (hi_of HO rfl) rfl (fun w' hE => by (repeat (with_reducible replace hE := Ext.unD hE)); have hcE := hE.hc; clear hE; go_simp; rfl) ?_
          simp only [Act.put, List.setIfInBounds_toArray, List.set_cons_succ, List.set_cons_zero]
          refine plan_read _ (hi_of HO rfl) rfl (fun w' hE => by (repeat (with_reducible replace hE := Ext.unD hE)); have hcE := hE.hc; clear hE; go_simp; rfl) ?_
          simp only [Act.put, List.setIfInBounds_toArray, List.set_cons_succ, List.set_cons_zero]
          refine plan_done ?fin102
          go_wp2
          go_ret
          exact ⟨ret_bool (by rw [← HR.out]; exact (decide_eq_false (fun e => hxy (HG.out e))).symm), by first | exact HX.out | exact Ext.drew HX.out⟩
      · obtain rfl : k = l.length := by omega
        have hmm : ¬ ((l.length : Nat) : Int) < (l.length : Int) := by omega
        have he := eq_of_take hlen HF.out
        have HE := hid_mk (show r = true by rw [← HR.out]; exact decide_eq_true he)
        clear he
        go_wp2
        go_ret
        exact ⟨ret_bool HE.out.symm, HX.out⟩
  · have hle : ((l.length : Int) == (l'.length : Int)) = false := by rw [beq_eq_false_iff_ne]; omega
    have hli : ¬ (l.length : Int) = (l'.length : Int) := by omega
    have HE := hid_mk (show r = false by rw [← HR.out]; exact decide_eq_false (fun e => hlen (by rw [e])))
    go_enter Tryd.func18, Tryd.ntmps18
    go_wp2
    go_ret
    exact ⟨ret_bool HE.out.symm, Ext.refl _⟩
theorem weigh_any {w : World} (v : Value) (l : List Ent) (hs : EntSl w v l) :
    Calls Tryd.prog 6 #[v] w fun e w' => ∃ n : Int, e = .returned (.int .i64 n) ∧ 0 ≤ n ∧ n ≤ 4000000000 ∧ (n < 1073741824 → (l.length : Int) ≤ n) ∧ Ext w w' := by
  obtain ⟨a, c, rfl, hac, ha63, hca⟩ := hs
  have HC := hid_mk hca
  clear hca
  go_enter Tryd.func6, Tryd.ntmps6
  go_wp2
  go_loopw [3, 4] (fun s i wr => ∃ k : Nat, ∃ n : Int, k ≤ l.length ∧ i = .int .i64 (k : Int) ∧ s = .int .i64 n ∧ (k : Int) ≤ n ∧ n ≤ 4000000000 ∧ Ext w wr) (fun _ i _ => l.length - (intOf i).toNat)
  case atStart => exact ⟨0, 0, Nat.zero_le _, rfl, rfl, by omega, by omega, Ext.refl _⟩
  case round =>
    obtain ⟨k, n, hk, rfl, rfl, hkn, hn, hx⟩ := hrel
    have HX := hid_mk hx
    clear hx
    by_cases hlt : k < l.length
    · have hk1 : (k : Int) < (l.length : Int) := by omega
      by_cases hbig : n < 1073741824
      · obtain ⟨b, o, rfl, hcl⟩ := HC.out (by omega)
        obtain ⟨a0, a1, a2, a3, a4⟩ := (hcl k hlt).ext HX.out
        have hbl := cell_lt a0
        obtain ⟨x, hx⟩ : ∃ x, l[k] = x := ⟨_, rfl⟩
        rw [hx] at a0 a1 a2 a3 a4
        have hk0 : (0 : Int) ≤ (k : Int) := by omega
        obtain ⟨p, hp⟩ : ∃ p, min (x.key.size : Int) 1073741824 = p := ⟨_, rfl⟩
        obtain ⟨q, hq⟩ : ∃ q, min (x.val.size : Int) 1073741824 = q := ⟨_, rfl⟩
        have hp2 : 0 ≤ p ∧ p ≤ 1073741824 := by omega
        have hq2 : 0 ≤ q ∧ q ≤ 1073741824 := by omega
        have HPQ := hid_mk (And.intro hp2 hq2)
        have HW := hid_mk (show wrap64 ((k : Int) + 1) = (k : Int) + 1 from w64in (by omega))
        have HN := hid_mk (And.intro hkn hn)
        have HM := hid_mk (show IntKind.i64.wrap (n + IntKind.i64.wrap (IntKind.i64.wrap (1 + p) + q)) = n + (1 + p + q) by rw [wrapZ (1 + p) (by omega), wrapZ (1 + p + q) (by omega), wrapZ (n + (1 + p + q)) (by omega)])
        clear hcl hx hp2 hq2 hkn hn
        go_wp2_with fail
        refine wp_region_held_below (fun _ => true) (.quiet 0 (.quiet 1 (.quiet 2 (.quiet 3 (.quiet 4 (.quiet 5 (.quiet 6 (.quiet 7 (.quiet 8 (.quiet 9 (.quiet 10 (.quiet 11 (.quiet 12 (.quiet 13 (.quiet 14 (.quiet 15 (.quiet 16 (.quiet 17 (.quiet 18 .done))))))))))))))))))) (by kernel_rfl) (by kernel_rfl) (by intro c a w d v h; cases d <;> exact h) (fun ops HO => ?_)
        refine plan_read _ (hi_of HO rfl) rfl (fun w' hE => by (repeat (with_reducible replace hE := Ext.unD hE)); have hcE := hE.hc; clear hE; go_simp; rfl) ?_
        simp only [Act.put, List.setIfInBounds_toArray, List.set_cons_succ, List.set_cons_zero]
        refine plan_read _ (hi_of HO rfl) rfl (fun w' hE => by (repeat (with_reducible replace hE := Ext.unD hE)); have hcE := hE.hc; clear hE; go_simp; rfl) ?_
        simp only [Act.put, List.setIfInBounds_toArray, List.set_cons_succ, List.set_cons_zero]
        refine plan_read _ (hi_of HO rfl) rfl (fun w' hE => by (repeat (with_reducible replace hE := Ext.unD hE)); have hcE := hE.hc; clear hE; go_simp; rfl) ?_
        simp only [Act.put, List.setIfInBounds_toArray, List.set_cons_succ, List.set_cons_zero]
        refine plan_read _ (hi_of HO rfl) rfl (fun w' hE => by (repeat (with_reducible replace hE := Ext.unD hE)); have hcE := hE.hc; clear hE; go_simp; rfl) ?_
        simp only [Act.put, List.setIfInBounds_toArray, List.set_cons_succ, List.set_cons_zero]
        refine plan_read _ (hi_of HO rfl) rfl (fun w' hE => by (repeat (with_reducible replace hE := Ext.unD hE)); have hcE := hE.hc; clear hE; go_simp; rfl) ?_
        simp only [Act.put, List.setIfInBounds_toArray, List.set_cons_succ, List.set_cons_zero]
        refine plan_read _ (hi_of HO rfl) rfl (fun w' hE => by (repeat (with_reducible replace hE := Ext.unD hE)); have hcE := hE.hc; clear hE; go_simp; rfl) ?_
        simp only [Act.put, List.setIfInBounds_toArray, List.set_cons_succ, List.set_cons_zero]
        refine plan_read _ (hi_of HO rfl) rfl (fun w' hE => by (repeat (with_reducible replace hE := Ext.unD hE)); have hcE := hE.hc; clear hE; go_simp; rfl) ?_
        simp only [Act.put, List.setIfInBounds_toArray, List.set_cons_succ, List.set_cons_zero]
        refine plan_read _ (hi_of HO rfl) rfl (fun w' hE => by (repeat (with_reducible replace hE := Ext.unD hE)); have hcE := hE.hc; clear hE; go_simp; rfl) ?_
        simp only [Act.put, List.setIfInBounds_toArray, List.set_cons_succ, List.set_cons_zero]
        refine plan_read _ (hi_of HO rfl) rfl (fun w' hE => by (repeat (with_reducible replace hE := Ext.unD hE)); have hcE := hE.hc; clear hE; go_simp; rfl) ?_
        simp only [Act.put, List.setIfInBounds_toArray, List.set_cons_succ, List.set_cons_zero]
        refine plan_read _ (hi_of HO rfl) rfl (fun w' hE => by (repeat (with_reducible replace hE := Ext.unD hE)); have hcE := hE.hc; clear hE; go_simp; rfl) ?_
        simp only [Act.put, List.setIfInBounds_toArray, List.set_cons_succ, List.set_cons_zero]
        refine plan_read _ (hi_of HO rfl) rfl (fun w' hE => by (repeat (with_reducible replace hE := Ext.unD hE)); have hcE := hE.hc; clear hE; go_simp; rfl) ?_
        simp only [Act.put, List.setIfInBounds_toArray, List.set_cons_succ, List.set_cons_zero]
        refine plan_read _ (hi_of HO rfl) rfl (fun w' hE => by (repeat (with_reducible replace hE := Ext.unD hE)); have hcE := hE.hc; clear hE; go_simp; rfl) ?_
        simp only [Act.put, List.setIfInBounds_toArray, List.set_cons_succ, List.set_cons_zero]
        refine plan_read _ (hi_of HO rfl) rfl (fun w' hE => by (repeat (with_reducible replace hE := Ext.unD hE)); have hcE := hE.hc; clear hE; go_simp; rfl) ?_
        simp only [Act.put, List.setIfInBounds_toArray, List.set_cons_succ, List.set_cons_zero]
        refine plan_read _ (hi_of HO rfl) rfl (fun w' hE => by (repeat (with_reducible replace hE := Ext.unD hE)); have hcE := hE.hc; clear hE; go_simp; rfl) ?_
        simp only [Act.put, List.setIfInBounds_toArray, List.set_cons_succ, List.set_cons_zero]
        refine plan_read _ (hi_of HO rfl) rfl (fun w' hE => by (repeat (with_reducible replace hE := Ext.unD hE)); have hcE := hE.hc; clear hE; go_simp; rfl) ?_
        simp only [Act.put, List.setIfInBounds_toArray, List.set_cons_succ, List.set_cons_zero]
        refine plan_read _ (hi_of HO rfl) rfl (fun w' hE => by (repeat (with_reducible replace hE := Ext.unD hE)); have hcE := hE.hc; clear hE; go_simp; rfl) ?_
        simp only [Act.put, List.setIfInBounds_toArray, List.set_cons_succ, List.set_cons_zero]
        refine plan_read _ (hi_of HO rfl) rfl (fun w' hE => by (repeat (with_reducible replace hE := Ext.unD hE)); have hcE := hE.hc; clear hE; go_simp; rfl) ?_
        simp only [Act.put, List.setIfInBounds_toArray, List.set_cons_succ, List.set_cons_zero]
        refine plan_read _ (hi_of HO rfl) rfl (fun w' hE => by (repeat (with_reducible replace hE := Ext.unD hE)); have hcE := hE.hc; clear hE; go_simp; rfl) ?_
        simp only [Act.put, List.setIfInBounds_toArray, List.set_cons_succ, List.set_cons_zero]
        refine plan_read _ (hi_of HO rfl) rfl (fun w' hE => by (repeat (with_reducible replace hE := Ext.unD hE)); have hcE := hE.hc; clear hE; go_simp; rfl) ?_
        simp only [Act.put, List.setIfInBounds_toArray, List.set_cons_succ, List.set_cons_zero]
        refine plan_done ?fin103
        go_wp2
        go_roundw
        case rel =>
          clear hp hq
          exact ⟨k + 1, n + (1 + p + q), by omega, (by first | exact congrArg (Value.int .i64) HW.out | rfl), congrArg (Value.int .i64) HM.out, by have := HN.out; have := HPQ.out; omega, by have := HN.out; have := HPQ.out; omega, by first | exact HX.out | exact Ext.drew HX.out⟩
        case measure =>
          clear hp hq
          (try simp only [HW.out]); simp [intOf]; omega
      · have hb2 : (1073741824 : Int) ≤ n := by omega
        go_wp2
        go_ret
        exact ⟨n, rfl, by omega, hn, fun h => absurd h (by omega), HX.out⟩
    · obtain rfl : k = l.length := by omega
      have hmm : ¬ ((l.length : Nat) : Int) < (l.length : Int) := by omega
      go_wp2
      go_ret
      exact ⟨n, rfl, by omega, hn, fun _ => hkn, HX.out⟩
end Go.Proofs.YtiimoaplhhnklaaDoor
