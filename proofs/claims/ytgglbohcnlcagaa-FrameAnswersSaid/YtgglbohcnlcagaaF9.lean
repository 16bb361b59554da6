/- The program's check of a frame. -/
import Derived.Test.YtgglbohcnlcagaaF7
import Derived.Test.YtgglbohcnlcagaaF8
namespace Go.Proofs.Ytgglbohcnlcagaa
open Go.RowKit
set_option maxHeartbeats 8000000
set_option maxRecDepth 100000
set_option linter.unusedSimpArgs false
set_option linter.unusedVariables false
theorem en_ffirst : Enters Try.prog 103 := ⟨_, Try.func103, by kernel_rfl, rfl⟩
theorem en_fCheck : Enters Try.prog 55 := ⟨_, Try.func55, by kernel_rfl, rfl⟩
attribute [local go_sem ↓] eql_rng neq_rng

theorem ffirst_any (l : List Prt) (sv : Value) (w : World) (hs : PrtSl w sv l) (b : Bool) (hb : b = true ↔ firstOk l) :
    Calls Try.prog 103 #[sv] w fun e w' => e = .returned (.bool b) ∧ Ext w w' := by
  obtain ⟨a, c, rfl, hlc, -, hcells⟩ := hs
  have HB := hid_mk hb
  clear hb
  by_cases hlen : l.length = 1
  · obtain ⟨b', o', rfl, hcl⟩ := hcells (by omega)
    obtain ⟨pv, hA⟩ := hcl 0 (by omega)
    clear hcells hcl
    obtain ⟨p, rfl⟩ : ∃ p, l = [p] := List.length_eq_one_iff.1 hlen
    simp only [Nat.zero_mul, Nat.add_zero, List.getElem_cons_zero] at hA
    obtain ⟨a0, a1, a2, a3, -, -, -, -, -⟩ := hA
    have hF := hid_mk (firstOk_one p)
    have hbl := cell_lt a0
    go_enter Try.func103, Try.ntmps103
    go_wp2_with fail
    refine wp_region_held_below (fun _ => true) (.quiet 0 (.quiet 1 (.quiet 2 (.quiet 3 (.quiet 4 (.quiet 5 (.quiet 6 (.quiet 7 (.quiet 8 (.quiet 9 (.quiet 10 (.quiet 11 (.quiet 12 (.quiet 13 (.quiet 14 (.alt 15 (.quiet 16 (.quiet 17 (.quiet 18 .done))) .stop)))))))))))))))) (by kernel_rfl) (by kernel_rfl) (by intro c a w d v h; cases d <;> exact h) (fun ops HO => ?_)
    refine plan_read _ (hi_of HO rfl) rfl (fun w' hE => by (first | replace hE := Ext.unD hE | skip); have hcE := hE.hc; clear hE; go_simp; rfl) ?_
    simp only [Act.put, List.setIfInBounds_toArray, List.set_cons_succ, List.set_cons_zero]
    refine plan_read _ (hi_of HO rfl) rfl (fun w' hE => by (first | replace hE := Ext.unD hE | skip); have hcE := hE.hc; clear hE; go_simp; rfl) ?_
    simp only [Act.put, List.setIfInBounds_toArray, List.set_cons_succ, List.set_cons_zero]
    refine plan_read _ (hi_of HO rfl) rfl (fun w' hE => by (first | replace hE := Ext.unD hE | skip); have hcE := hE.hc; clear hE; go_simp; rfl) ?_
    simp only [Act.put, List.setIfInBounds_toArray, List.set_cons_succ, List.set_cons_zero]
    refine plan_read _ (hi_of HO rfl) rfl (fun w' hE => by (first | replace hE := Ext.unD hE | skip); have hcE := hE.hc; clear hE; go_simp; rfl) ?_
    simp only [Act.put, List.setIfInBounds_toArray, List.set_cons_succ, List.set_cons_zero]
    refine plan_read _ (hi_of HO rfl) (by rw [HO.out]; rfl) (fun w' hE => by (first | replace hE := Ext.unD hE | skip); have hcE := hE.hc; clear hE; go_simp; rfl) ?_
    simp only [Act.put, List.setIfInBounds_toArray, List.set_cons_succ, List.set_cons_zero]
    refine plan_read _ (hi_of HO rfl) (by rw [HO.out]; rfl) (fun w' hE => by (first | replace hE := Ext.unD hE | skip); have hcE := hE.hc; clear hE; go_simp; rfl) ?_
    simp only [Act.put, List.setIfInBounds_toArray, List.set_cons_succ, List.set_cons_zero]
    refine plan_read _ (hi_of HO rfl) (by rw [HO.out]; rfl) (fun w' hE => by (first | replace hE := Ext.unD hE | skip); have hcE := hE.hc; clear hE; go_simp; rfl) ?_
    simp only [Act.put, List.setIfInBounds_toArray, List.set_cons_succ, List.set_cons_zero]
    refine plan_read _ (hi_of HO rfl) (by rw [HO.out]; rfl) (fun w' hE => by (first | replace hE := Ext.unD hE | skip); have hcE := hE.hc; clear hE; go_simp; rfl) ?_
    simp only [Act.put, List.setIfInBounds_toArray, List.set_cons_succ, List.set_cons_zero]
    refine plan_read _ (hi_of HO rfl) (by rw [HO.out]; rfl) (fun w' hE => by (first | replace hE := Ext.unD hE | skip); have hcE := hE.hc; clear hE; go_simp; rfl) ?_
    simp only [Act.put, List.setIfInBounds_toArray, List.set_cons_succ, List.set_cons_zero]
    refine plan_read _ (hi_of HO rfl) rfl (fun w' hE => by (first | replace hE := Ext.unD hE | skip); have hcE := hE.hc; clear hE; go_simp; rfl) ?_
    simp only [Act.put, List.setIfInBounds_toArray, List.set_cons_succ, List.set_cons_zero]
    refine plan_boolc _ (hi_of HO rfl) rfl (fun w' hE => by (first | replace hE := Ext.unD hE | skip); have hcE := hE.hc; clear hE; go_simp; rfl) (by rfl) ?hF101 ?hT101
    case' hF101 =>
      intro hb101
      simp only [Act.put, List.setIfInBounds_toArray, List.set_cons_succ, List.set_cons_zero]
      refine plan_skip (hi_of HO rfl) (by rw [HO.out]; rfl) ?_
      simp only [Act.put, List.setIfInBounds_toArray, List.set_cons_succ, List.set_cons_zero]
      refine plan_skip (hi_of HO rfl) (by rw [HO.out]; rfl) ?_
      simp only [Act.put, List.setIfInBounds_toArray, List.set_cons_succ, List.set_cons_zero]
      refine plan_skip (hi_of HO rfl) (by rw [HO.out]; rfl) ?_
      simp only [Act.put, List.setIfInBounds_toArray, List.set_cons_succ, List.set_cons_zero]
      refine plan_skip (hi_of HO rfl) (by rw [HO.out]; rfl) ?_
      simp only [Act.put, List.setIfInBounds_toArray, List.set_cons_succ, List.set_cons_zero]
      refine plan_skip1 (hi_of HO rfl) (by rw [HO.out]; rfl) (Ext.refl _) ?_
      simp only [Act.put, List.setIfInBounds_toArray, List.set_cons_succ, List.set_cons_zero]
      refine plan_skip (hi_of HO rfl) (by rw [HO.out]; rfl) ?_
      simp only [Act.put, List.setIfInBounds_toArray, List.set_cons_succ, List.set_cons_zero]
      refine plan_read _ (hi_of HO rfl) rfl (fun w' hE => by (first | replace hE := Ext.unD hE | skip); have hcE := hE.hc; clear hE; go_simp; rfl) ?_
      simp only [Act.put, List.setIfInBounds_toArray, List.set_cons_succ, List.set_cons_zero]
      refine plan_read _ (hi_of HO rfl) rfl (fun w' hE => by (first | replace hE := Ext.unD hE | skip); have hcE := hE.hc; clear hE; go_simp; rfl) ?_
      simp only [Act.put, List.setIfInBounds_toArray, List.set_cons_succ, List.set_cons_zero]
      refine plan_done ?fin102
    case' hT101 =>
      intro hb101
      simp only [Act.put, List.setIfInBounds_toArray, List.set_cons_succ, List.set_cons_zero]
      refine plan_read _ (hi_of HO rfl) (by rw [HO.out]; rfl) (fun w' hE => by (first | replace hE := Ext.unD hE | skip); have hcE := hE.hc; clear hE; go_simp; rfl) ?_
      simp only [Act.put, List.setIfInBounds_toArray, List.set_cons_succ, List.set_cons_zero]
      refine plan_read _ (hi_of HO rfl) (by rw [HO.out]; rfl) (fun w' hE => by (first | replace hE := Ext.unD hE | skip); have hcE := hE.hc; clear hE; go_simp; rfl) ?_
      simp only [Act.put, List.setIfInBounds_toArray, List.set_cons_succ, List.set_cons_zero]
      refine plan_read _ (hi_of HO rfl) (by rw [HO.out]; rfl) (fun w' hE => by (first | replace hE := Ext.unD hE | skip); have hcE := hE.hc; clear hE; go_simp; rfl) ?_
      simp only [Act.put, List.setIfInBounds_toArray, List.set_cons_succ, List.set_cons_zero]
      refine plan_read _ (hi_of HO rfl) (by rw [HO.out]; rfl) (fun w' hE => by (first | replace hE := Ext.unD hE | skip); have hcE := hE.hc; clear hE; go_simp; rfl) ?_
      simp only [Act.put, List.setIfInBounds_toArray, List.set_cons_succ, List.set_cons_zero]
      refine plan_call1 en_sWhole (hi_of HO rfl) (by rw [HO.out]; rfl) rfl (by go_simp; rfl) (by exact (sWhole_any _)) ?_
      rintro e v103 ⟨rfl, hx103⟩
      refine ⟨_, rfl, fun _ => hx103, ?_⟩
      have hy103 := hid_mk (by first | (with_reducible exact Ext.unD hx103) | exact hx103 : Ext _ v103)
      have hc103 := hx103.hc; have hl103 := hx103.hl; have he103 := hx103.hle; have hn103 := hx103.hne; replace hx103 := hid_mk hx103
      simp only [Act.put, List.setIfInBounds_toArray, List.set_cons_succ, List.set_cons_zero]
      replace a0 := cell_ext hy103.out a0
      replace a1 := cell_ext hy103.out a1
      replace a2 := cell_ext hy103.out a2
      replace a3 := cell_ext hy103.out a3
      have hbl103 := cell_lt a0
      refine plan_read _ (hi_of HO rfl) (by rw [HO.out]; rfl) (fun w' hE => by have hcE := (Ext.trans _ _ _ (by (repeat (first | exact hx103.out | apply Ext.drew | apply Ext.alloc))) hE).hc; (first | replace hE := Ext.unD hE | skip); have hcF := hE.hc; clear hE; go_simp; rfl) ?_
      simp only [Act.put, List.setIfInBounds_toArray, List.set_cons_succ, List.set_cons_zero]
      refine plan_read _ (hi_of HO rfl) rfl (fun w' hE => by have hcE := (Ext.trans _ _ _ (by (repeat (first | exact hx103.out | apply Ext.drew | apply Ext.alloc))) hE).hc; (first | replace hE := Ext.unD hE | skip); have hcF := hE.hc; clear hE; go_simp; rfl) ?_
      simp only [Act.put, List.setIfInBounds_toArray, List.set_cons_succ, List.set_cons_zero]
      refine plan_read _ (hi_of HO rfl) rfl (fun w' hE => by have hcE := (Ext.trans _ _ _ (by (repeat (first | exact hx103.out | apply Ext.drew | apply Ext.alloc))) hE).hc; (first | replace hE := Ext.unD hE | skip); have hcF := hE.hc; clear hE; go_simp; rfl) ?_
      simp only [Act.put, List.setIfInBounds_toArray, List.set_cons_succ, List.set_cons_zero]
      refine plan_done ?fin104
    all_goals go_wp2
    all_goals go_ret
    · refine ⟨ret_bool ?_, (by assumption : Hid (Ext w _)).out⟩
      have hk : (p.kind == 1) = true := by assumption
      rw [Bool.eq_iff_iff, HB.out, hF.out]
      simp only [beq_iff_eq] at hk
      simp [hk]
    · refine ⟨ret_bool ?_, by (repeat (first | exact Ext.refl _ | apply Ext.drew_left | apply Ext.drew | apply Ext.alloc))⟩
      have hk : (p.kind == 1) = false := by assumption
      rw [Bool.eq_iff_iff, HB.out, hF.out]
      simp only [beq_eq_false_iff_ne] at hk
      simp [hk]
  · have hlb : ((l.length : Int) == 1) = false := by simp; omega
    clear hcells
    go_enter Try.func103, Try.ntmps103
    go_wp2_with fail
    refine wp_region_held_below (fun _ => true) (.quiet 0 (.quiet 1 (.quiet 2 (.quiet 3 (.quiet 4 (.quiet 5 (.quiet 6 (.quiet 7 (.quiet 8 (.quiet 9 (.quiet 10 (.quiet 11 (.quiet 12 (.quiet 13 (.quiet 14 (.alt 15 (.quiet 16 (.quiet 17 (.quiet 18 .done))) .stop)))))))))))))))) (by kernel_rfl) (by kernel_rfl) (by intro c a w d v h; cases d <;> exact h) (fun ops HO => ?_)
    refine plan_read _ (hi_of HO rfl) rfl (fun w' hE => by (first | replace hE := Ext.unD hE | skip); have hcE := hE.hc; clear hE; go_simp; rfl) ?_
    simp only [Act.put, List.setIfInBounds_toArray, List.set_cons_succ, List.set_cons_zero]
    refine plan_read _ (hi_of HO rfl) rfl (fun w' hE => by (first | replace hE := Ext.unD hE | skip); have hcE := hE.hc; clear hE; go_simp; rfl) ?_
    simp only [Act.put, List.setIfInBounds_toArray, List.set_cons_succ, List.set_cons_zero]
    refine plan_read _ (hi_of HO rfl) rfl (fun w' hE => by (first | replace hE := Ext.unD hE | skip); have hcE := hE.hc; clear hE; go_simp; rfl) ?_
    simp only [Act.put, List.setIfInBounds_toArray, List.set_cons_succ, List.set_cons_zero]
    refine plan_read _ (hi_of HO rfl) rfl (fun w' hE => by (first | replace hE := Ext.unD hE | skip); have hcE := hE.hc; clear hE; go_simp; rfl) ?_
    simp only [Act.put, List.setIfInBounds_toArray, List.set_cons_succ, List.set_cons_zero]
    refine plan_skip (hi_of HO rfl) (by rw [HO.out]; rfl) ?_
    simp only [Act.put, List.setIfInBounds_toArray, List.set_cons_succ, List.set_cons_zero]
    refine plan_skip (hi_of HO rfl) (by rw [HO.out]; rfl) ?_
    simp only [Act.put, List.setIfInBounds_toArray, List.set_cons_succ, List.set_cons_zero]
    refine plan_skip (hi_of HO rfl) (by rw [HO.out]; rfl) ?_
    simp only [Act.put, List.setIfInBounds_toArray, List.set_cons_succ, List.set_cons_zero]
    refine plan_skip (hi_of HO rfl) (by rw [HO.out]; rfl) ?_
    simp only [Act.put, List.setIfInBounds_toArray, List.set_cons_succ, List.set_cons_zero]
    refine plan_skip (hi_of HO rfl) (by rw [HO.out]; rfl) ?_
    simp only [Act.put, List.setIfInBounds_toArray, List.set_cons_succ, List.set_cons_zero]
    refine plan_read _ (hi_of HO rfl) rfl (fun w' hE => by (first | replace hE := Ext.unD hE | skip); have hcE := hE.hc; clear hE; go_simp; rfl) ?_
    simp only [Act.put, List.setIfInBounds_toArray, List.set_cons_succ, List.set_cons_zero]
    refine plan_read _ (hi_of HO rfl) rfl (fun w' hE => by (first | replace hE := Ext.unD hE | skip); have hcE := hE.hc; clear hE; go_simp; rfl) ?_
    simp only [Act.put, List.setIfInBounds_toArray, List.set_cons_succ, List.set_cons_zero]
    refine plan_skip (hi_of HO rfl) (by rw [HO.out]; rfl) ?_
    simp only [Act.put, List.setIfInBounds_toArray, List.set_cons_succ, List.set_cons_zero]
    refine plan_skip (hi_of HO rfl) (by rw [HO.out]; rfl) ?_
    simp only [Act.put, List.setIfInBounds_toArray, List.set_cons_succ, List.set_cons_zero]
    refine plan_skip (hi_of HO rfl) (by rw [HO.out]; rfl) ?_
    simp only [Act.put, List.setIfInBounds_toArray, List.set_cons_succ, List.set_cons_zero]
    refine plan_skip (hi_of HO rfl) (by rw [HO.out]; rfl) ?_
    simp only [Act.put, List.setIfInBounds_toArray, List.set_cons_succ, List.set_cons_zero]
    refine plan_skip1 (hi_of HO rfl) (by rw [HO.out]; rfl) (Ext.refl _) ?_
    simp only [Act.put, List.setIfInBounds_toArray, List.set_cons_succ, List.set_cons_zero]
    refine plan_skip (hi_of HO rfl) (by rw [HO.out]; rfl) ?_
    simp only [Act.put, List.setIfInBounds_toArray, List.set_cons_succ, List.set_cons_zero]
    refine plan_read _ (hi_of HO rfl) rfl (fun w' hE => by (first | replace hE := Ext.unD hE | skip); have hcE := hE.hc; clear hE; go_simp; rfl) ?_
    simp only [Act.put, List.setIfInBounds_toArray, List.set_cons_succ, List.set_cons_zero]
    refine plan_read _ (hi_of HO rfl) rfl (fun w' hE => by (first | replace hE := Ext.unD hE | skip); have hcE := hE.hc; clear hE; go_simp; rfl) ?_
    simp only [Act.put, List.setIfInBounds_toArray, List.set_cons_succ, List.set_cons_zero]
    refine plan_done ?fin105
    all_goals go_wp2
    all_goals go_ret
    all_goals
      refine ⟨ret_bool ?_, by (repeat (first | exact Ext.refl _ | apply Ext.drew_left | apply Ext.drew | apply Ext.alloc))⟩
      rw [Bool.eq_iff_iff, HB.out]
      exact ⟨fun h => by simp at h, fun ⟨q, h, _⟩ => absurd (by rw [h]; rfl) hlen⟩

theorem fCheck_any (f t o li nu tu : Int) (l : List Prt) (sv : Value) (w : World) (hs : PrtSl w sv l) :
    Calls Try.prog 55 #[.agg #[.int .i64 f, .int .i64 t, .int .i64 o, .int .i64 li, .int .i64 nu, .int .i64 tu, sv]] w fun e w' => e = .returned (.int .i64 (frmChk ⟨f, t, o, li, nu, tu, l⟩)) ∧ Ext w w' := by
  have HS0 := hid_mk hs
  have HQ := hid_mk (frmChk_eq f t o li nu tu l)
  generalize frmChk ⟨f, t, o, li, nu, tu, l⟩ = res at *
  obtain ⟨a, c, rfl, hlc, -, hcells⟩ := hs
  have HC := hid_mk hcells
  clear hcells hlc
  by_cases hE : endsOk f t o
  · have HE := hid_mk hE
    obtain ⟨⟨h1, h2⟩, ⟨h3, h4⟩, h5, h6⟩ := hE
    have b1 : decide (0 ≤ f ∧ f < 8) = true := by simp; omega
    have b2 : decide (0 ≤ t ∧ t < 8) = true := by simp; omega
    have b3 : (f == t) = false := by simpa using h5
    have b4 : (t == f) = false := by simp; omega
    have b5 : (t != f) = true := by simp; omega
    have b6 : (f != t) = true := by simpa using h5
    clear h1 h2 h3 h4 h5
    have hn : checkName o li nu = 0 ∨ checkName o li nu = 111 := by
      have h := HE.out
      simp only [endsOk] at h
      simp only [checkName]
      rw [if_pos (by omega)]
      split
      · exact Or.inl rfl
      · exact Or.inr rfl
    have HN := hid_mk hn
    clear hn
    go_enter Try.func55, Try.ntmps55
    have h6' : (o == f) = true ∧ (o != f) = false ∧ (f == o) = true ∨ (o == f) = false ∧ (o != f) = true ∧ (o == t) = true ∧ (o != t) = false ∧ (f == o) = false := by
      rcases h6 with rfl | rfl
      · exact Or.inl ⟨by simp, by simp, by simp⟩
      · exact Or.inr ⟨b4, by simpa using b5, by simp, by simp, b3⟩
    clear b4 b5 b6 h6
    by_cases hT : turnOk f o tu
    · have HT := hid_mk hT
      have ht0 := hT.1
      have ht1 := hT.2.1
      have ht2 : (tu % 2 == 0) = (f == o) := by
        have h := hT.2.2
        by_cases e : f = o
        · have h2 := h.2 e
          rw [show (tu % 2 == 0) = true by simpa using h2, show (f == o) = true by simpa using e]
        · have h2 : ¬ tu % 2 = 0 := fun e' => e (h.1 e')
          rw [show (tu % 2 == 0) = false by simpa using h2, show (f == o) = false by simpa using e]
      clear hT
      have HT2 := hid_mk ht2
      clear ht2
      rcases h6' with ⟨e1, e2, e3⟩ | ⟨e1, e2, e3, e4, e5⟩
      all_goals
        have ht2 := HT2.out
        (first | rw [e3] at ht2 | rw [e5] at ht2)
        go_wp2_with (first | (go_at_call 75; refine (isNode_any _ _).mono ?_; rintro e w' ⟨rfl, rfl⟩) | (go_at_call 20; fail))
        refine (checkName_any _ _ _ _).mono ?_
        rintro e w1 ⟨rfl, hx1⟩
        replace hx1 := Ext.trans _ _ _ (by (repeat (first | exact Ext.refl _ | apply Ext.drew_left | apply Ext.drew | apply Ext.alloc))) hx1
        have hc1 := hx1.hc; have hl1 := hx1.hl; have he1 := hx1.hle; have hn1 := hx1.hne; replace hx1 := hid_mk hx1
        by_cases hcn : checkName o li nu = 0
        · have HCN := hid_mk hcn
          rw [hcn]
          clear hcn
          go_wp2_with fail
          refine (fCheckParts_any l _ _ (HS0.out.ext (Ext.trans _ _ _ ((Ext.refl _).alloc _) hx1.out))).mono ?_
          rintro e w2 ⟨rfl, hx2⟩
          replace hx2 := Ext.trans _ _ _ hx1.out hx2
          clear hc1 hl1 he1 hn1
          have hc2 := hx2.hc; have hl2 := hx2.hl; have he2 := hx2.hle; have hn2 := hx2.hne; replace hx2 := hid_mk hx2
          by_cases hpc : partsChk l = 0
          · have HPC := hid_mk hpc
            rw [hpc]
            clear hpc
            by_cases hz : tu = 0
            · subst hz
              first
                | (exfalso; revert ht2; decide)
                | (by_cases hfo : firstOk l
                   · go_wp2_with fail
                     refine (ffirst_any l _ _ (HS0.out.ext (Ext.trans _ _ _ ((Ext.refl _).alloc _) hx2.out)) true (by simp [hfo])).mono ?_
                     rintro e w3 ⟨rfl, hx3⟩
                     replace hx3 := Ext.trans _ _ _ hx2.out hx3
                     clear hc2 hl2 he2 hn2
                     have hc3 := hx3.hc; have hl3 := hx3.hl; have he3 := hx3.hle; have hn3 := hx3.hne; replace hx3 := hid_mk hx3
                     go_wp2
                     go_ret
                     refine ⟨ret_int ?_, Ext.trans _ _ _ ((Ext.refl _).alloc _) hx3.out⟩
                     rw [HQ.out, if_neg (by simpa using HE.out), if_neg (by simp [HCN.out]), if_neg (by simpa using HT.out), if_neg (by simp [HPC.out]), if_neg (fun h => h.2 hfo)]
                   · go_wp2_with fail
                     refine (ffirst_any l _ _ (HS0.out.ext (Ext.trans _ _ _ ((Ext.refl _).alloc _) hx2.out)) false (by simp [hfo])).mono ?_
                     rintro e w3 ⟨rfl, hx3⟩
                     replace hx3 := Ext.trans _ _ _ hx2.out hx3
                     clear hc2 hl2 he2 hn2
                     have hc3 := hx3.hc; have hl3 := hx3.hl; have he3 := hx3.hle; have hn3 := hx3.hne; replace hx3 := hid_mk hx3
                     go_wp2
                     go_ret
                     refine ⟨ret_int ?_, Ext.trans _ _ _ ((Ext.refl _).alloc _) hx3.out⟩
                     rw [HQ.out, if_neg (by simpa using HE.out), if_neg (by simp [HCN.out]), if_neg (by simpa using HT.out), if_neg (by simp [HPC.out]), if_pos ⟨rfl, hfo⟩])
            · have hzb : (tu == 0) = false := by simpa using hz
              go_wp2
              go_ret
              refine ⟨ret_int ?_, Ext.trans _ _ _ ((Ext.refl _).alloc _) hx2.out⟩
              rw [HQ.out, if_neg (by simpa using HE.out), if_neg (by simp [HCN.out]), if_neg (by simpa using HT.out), if_neg (by simp [HPC.out]), if_neg (fun h => hz h.1)]
          · go_wp2
            go_ret
            refine ⟨ret_int ?_, Ext.trans _ _ _ ((Ext.refl _).alloc _) hx2.out⟩
            rw [HQ.out, if_neg (by simpa using HE.out), if_neg (by simp [HCN.out]), if_neg (by simpa using HT.out), if_pos hpc]
        · go_wp2
          go_ret
          refine ⟨ret_int ?_, Ext.trans _ _ _ ((Ext.refl _).alloc _) hx1.out⟩
          rw [HQ.out, if_neg (by simpa using HE.out), if_pos hcn]
    · have HT := hid_mk hT
      clear hT
      rcases h6' with ⟨e1, e2, e3⟩ | ⟨e1, e2, e3, e4, e5⟩
      all_goals
        go_wp2_with (first | (go_at_call 75; refine (isNode_any _ _).mono ?_; rintro e w' ⟨rfl, rfl⟩) | (go_at_call 20; fail))
        refine (checkName_any _ _ _ _).mono ?_
        rintro e w1 ⟨rfl, hx1⟩
        replace hx1 := Ext.trans _ _ _ (by (repeat (first | exact Ext.refl _ | apply Ext.drew_left | apply Ext.drew | apply Ext.alloc))) hx1
        have hc1 := hx1.hc; have hl1 := hx1.hl; have he1 := hx1.hle; have hn1 := hx1.hne; replace hx1 := hid_mk hx1
        by_cases hcn : checkName o li nu = 0
        · have HCN := hid_mk hcn
          rw [hcn]
          clear hcn
          go_wp2_with fail
          all_goals first
            | (go_ret
               refine ⟨ret_int ?_, Ext.trans _ _ _ ((Ext.refl _).alloc _) hx1.out⟩
               rw [HQ.out, if_neg (by simpa using HE.out), if_neg (by simp [HCN.out]), if_pos HT.out])
            | (exfalso
               refine HT.out ?_
               clear hc1 hl1 he1 hn1
               simp_all [turnOk]; done)
            | (exfalso
               refine HT.out ?_
               clear hc1 hl1 he1 hn1
               simp_all [turnOk]; omega)
        · go_wp2
          go_ret
          refine ⟨ret_int ?_, Ext.trans _ _ _ ((Ext.refl _).alloc _) hx1.out⟩
          rw [HQ.out, if_neg (by simpa using HE.out), if_pos hcn]
  · have HE := hid_mk hE
    clear hE
    go_enter Try.func55, Try.ntmps55
    go_wp2_with (first | (go_at_call 75; refine (isNode_any _ _).mono ?_; rintro e w' ⟨rfl, rfl⟩))
    all_goals first
      | (go_ret
         refine ⟨ret_int ?_, by (repeat (first | exact Ext.refl _ | apply Ext.drew_left | apply Ext.drew | apply Ext.alloc))⟩
         rw [HQ.out, if_pos HE.out])
      | (exfalso
         refine HE.out ?_
         simp only [endsOk]
         simp_all; done)
end Go.Proofs.Ytgglbohcnlcagaa
