/- What is wrong with one part, the document's answer. -/
import Derived.Test.YtgglbohcnlcagaaF4
namespace Go.Proofs.Ytgglbohcnlcagaa
open Go.RowKit
set_option maxHeartbeats 8000000
set_option maxRecDepth 100000
set_option linter.unusedSimpArgs false
set_option linter.unusedVariables false
attribute [local go_sem ↓] eql_tally neq_tally eql_sum neq_sum

/-- The spec, said step by step. -/
theorem partChk_eq (prev : Option Prt) (p : Prt) : partChk prev p = if fieldsErr p ≠ 0 then 114
    else if rngCheck p.lo p.hi p.op ≠ 0 then rngCheck p.lo p.hi p.op
    else if tilesBad prev p = true then 115
    else if p.kind ≠ 1 then partItems p.kind p.lo p.hi p.op p.ents
    else if tallyBad p = true then 117 else 0 := by
  unfold partChk; rfl

theorem rpart_any (l : List Prt) (sv : Value) (k : Nat) (hk : k < l.length) (w : World) (hs : PrtSl w sv l) :
    Calls Try.prog 108 #[sv, .int .i64 k] w fun e w' => e = .returned (.int .i64 (partChk (prevPrt l k) l[k])) ∧ Ext w w' := by
  obtain ⟨a, c, rfl, hlc, hc63, hcells⟩ := hs
  obtain ⟨b, o, rfl, hcl⟩ := hcells (by omega)
  have HL := hid_mk hcl
  obtain ⟨pv, hA⟩ := hcl k hk
  clear hcl hcells
  obtain ⟨p, hp⟩ : ∃ p, p = l[k] := ⟨_, rfl⟩
  rw [← hp] at hA ⊢
  have HPk := hid_mk hp
  clear hp
  have HQ := hid_mk (partChk_eq (prevPrt l k) p)
  generalize partChk (prevPrt l k) p = res at *
  obtain ⟨kind, lo, hi, op, cnt, s0, s1, ents⟩ := p
  dsimp only at HQ
  have HE := hid_mk hA.es
  obtain ⟨a0, a1, a2, a3, a4, a5, a6, a7, _⟩ := hA
  obtain ⟨ea, ec, rfl, -⟩ := HE.out
  dsimp only at a0 a1 a2 a3 a4 a5 a6 a7 HE
  have hk1 : (k : Int) < (l.length : Int) := by omega
  have hk0 : (0 : Int) ≤ (k : Int) := by omega
  have hlc' := hid_mk hlc
  clear hlc
  by_cases hf : fieldsErr ⟨kind, lo, hi, op, cnt, s0, s1, ents⟩ = 0
  · have HF := hid_mk hf
    clear hf
    have hkind : 1 ≤ kind ∧ kind ≤ 3 ∧ (kind = 1 → ents.length = 0) ∧ (¬ kind = 1 → cnt = 0 ∧ s0 = 0 ∧ s1 = 0) := by
      have h := HF.out
      simp only [fieldsErr] at h
      split at h
      · simp at h
      · rename_i h'; refine ⟨by omega, by omega, fun e => by omega, fun e => by omega⟩
    by_cases h1 : kind = 1
    · subst h1
      obtain rfl : ents = [] := List.eq_nil_of_length_eq_zero (hkind.2.2.1 rfl)
      clear hkind
      go_enter Try.func108, Try.ntmps108
      go_wp2_with fail
      refine (r2Check_any _ _ _ _).mono ?_
      rintro e w1 ⟨rfl, hx1⟩
      have hloc0 : w1.cell? ⟨w.heap.size, 0, none⟩ = some (.int .i64 1) := cell_ext hx1 (by go_simp)
      have hsz := cell_lt hloc0
      have HX0 := hid_mk (show Ext w w1 from Ext.trans _ _ _ ((Ext.refl _).alloc _) hx1)
      clear hloc0
      have hc1 := hx1.hc; have hl1 := hx1.hl; have he1 := hx1.hle; have hn1 := hx1.hne; replace hx1 := hid_mk hx1
      by_cases hz : rngCheck lo hi op = 0
      · have HZ := hid_mk hz
        rw [hz]
        clear hz
        rcases k with _ | m
        · have hnil := hid_mk (show prevPrt l 0 = none from rfl)
          go_wp2_with fail
          refine wp_region_held_below (fun _ => true) (.quiet 0 (.quiet 1 (.quiet 2 (.quiet 3 (.quiet 4 (.quiet 5 (.quiet 6 (.quiet 7 (.quiet 8 (.quiet 9 (.quiet 10 (.quiet 11 (.quiet 12 (.quiet 13 (.quiet 14 (.quiet 15 (.quiet 16 (.quiet 17 (.quiet 18 (.quiet 19 (.quiet 20 (.quiet 21 (.quiet 22 (.quiet 23 (.quiet 24 (.quiet 25 (.quiet 26 (.quiet 27 (.quiet 28 (.quiet 29 (.quiet 30 (.quiet 31 (.quiet 32 (.quiet 33 (.quiet 34 (.quiet 35 (.quiet 36 (.quiet 37 (.quiet 38 .done))))))))))))))))))))))))))))))))))))))) (by kernel_rfl) (by kernel_rfl) (by intro c a w d v h; cases d <;> exact h) (fun ops HO => ?_)
          refine plan_read _ (hi_of HO rfl) rfl (fun w' hE => by have hcE := (Ext.trans _ _ _ (by (repeat (first | exact hx1.out | apply Ext.drew | apply Ext.alloc))) hE).hc; (first | replace hE := Ext.unD hE | skip); have hcF := hE.hc; clear hE; go_simp; rfl) ?_
          simp only [Act.put, List.setIfInBounds_toArray, List.set_cons_succ, List.set_cons_zero]
          refine plan_read _ (hi_of HO rfl) rfl (fun w' hE => by have hcE := (Ext.trans _ _ _ (by (repeat (first | exact hx1.out | apply Ext.drew | apply Ext.alloc))) hE).hc; (first | replace hE := Ext.unD hE | skip); have hcF := hE.hc; clear hE; go_simp; rfl) ?_
          simp only [Act.put, List.setIfInBounds_toArray, List.set_cons_succ, List.set_cons_zero]
          refine plan_read _ (hi_of HO rfl) rfl (fun w' hE => by have hcE := (Ext.trans _ _ _ (by (repeat (first | exact hx1.out | apply Ext.drew | apply Ext.alloc))) hE).hc; (first | replace hE := Ext.unD hE | skip); have hcF := hE.hc; clear hE; go_simp; rfl) ?_
          simp only [Act.put, List.setIfInBounds_toArray, List.set_cons_succ, List.set_cons_zero]
          refine plan_read _ (hi_of HO rfl) rfl (fun w' hE => by have hcE := (Ext.trans _ _ _ (by (repeat (first | exact hx1.out | apply Ext.drew | apply Ext.alloc))) hE).hc; (first | replace hE := Ext.unD hE | skip); have hcF := hE.hc; clear hE; go_simp; rfl) ?_
          simp only [Act.put, List.setIfInBounds_toArray, List.set_cons_succ, List.set_cons_zero]
          refine plan_boolc _ (hi_of HO rfl) rfl (fun w' hE => by have hcE := (Ext.trans _ _ _ (by (repeat (first | exact hx1.out | apply Ext.drew | apply Ext.alloc))) hE).hc; (first | replace hE := Ext.unD hE | skip); have hcF := hE.hc; clear hE; go_simp; rfl) (by rfl) ?hF101 ?hT101
          case' hF101 =>
            intro hb101
            simp only [Act.put, List.setIfInBounds_toArray, List.set_cons_succ, List.set_cons_zero]
            refine plan_skip (hi_of HO rfl) (by rw [HO.out]; rfl) ?_
            simp only [Act.put, List.setIfInBounds_toArray, List.set_cons_succ, List.set_cons_zero]
            refine plan_skip (hi_of HO rfl) (by rw [HO.out]; rfl) ?_
            simp only [Act.put, List.setIfInBounds_toArray, List.set_cons_succ, List.set_cons_zero]
            refine plan_skip (hi_of HO rfl) (by rw [HO.out]; rfl) ?_
            simp only [Act.put, List.setIfInBounds_toArray, List.set_cons_succ, List.set_cons_zero]
            refine plan_skip (hi_of HO rfl) (by rw [HO.out]; rfl) ?_
            simp only [Act.put, List.setIfInBounds_toArray, List.set_cons_succ, List.set_cons_zero]
            refine plan_skip (hi_of HO rfl) (by rw [HO.out]; rfl) ?_
            simp only [Act.put, List.setIfInBounds_toArray, List.set_cons_succ, List.set_cons_zero]
            refine plan_skip (hi_of HO rfl) (by rw [HO.out]; rfl) ?_
            simp only [Act.put, List.setIfInBounds_toArray, List.set_cons_succ, List.set_cons_zero]
            refine plan_skip (hi_of HO rfl) (by rw [HO.out]; rfl) ?_
            simp only [Act.put, List.setIfInBounds_toArray, List.set_cons_succ, List.set_cons_zero]
            refine plan_read _ (hi_of HO rfl) rfl (fun w' hE => by have hcE := (Ext.trans _ _ _ (by (repeat (first | exact hx1.out | apply Ext.drew | apply Ext.alloc))) hE).hc; (first | replace hE := Ext.unD hE | skip); have hcF := hE.hc; clear hE; go_simp; rfl) ?_
            simp only [Act.put, List.setIfInBounds_toArray, List.set_cons_succ, List.set_cons_zero]
            refine plan_read _ (hi_of HO rfl) rfl (fun w' hE => by have hcE := (Ext.trans _ _ _ (by (repeat (first | exact hx1.out | apply Ext.drew | apply Ext.alloc))) hE).hc; (first | replace hE := Ext.unD hE | skip); have hcF := hE.hc; clear hE; go_simp; rfl) ?_
            simp only [Act.put, List.setIfInBounds_toArray, List.set_cons_succ, List.set_cons_zero]
            refine plan_read _ (hi_of HO rfl) (by rw [HO.out]; rfl) (fun w' hE => by have hcE := (Ext.trans _ _ _ (by (repeat (first | exact hx1.out | apply Ext.drew | apply Ext.alloc))) hE).hc; (first | replace hE := Ext.unD hE | skip); have hcF := hE.hc; clear hE; go_simp; rfl) ?_
            simp only [Act.put, List.setIfInBounds_toArray, List.set_cons_succ, List.set_cons_zero]
            refine plan_read _ (hi_of HO rfl) (by rw [HO.out]; rfl) (fun w' hE => by have hcE := (Ext.trans _ _ _ (by (repeat (first | exact hx1.out | apply Ext.drew | apply Ext.alloc))) hE).hc; (first | replace hE := Ext.unD hE | skip); have hcF := hE.hc; clear hE; go_simp; rfl) ?_
            simp only [Act.put, List.setIfInBounds_toArray, List.set_cons_succ, List.set_cons_zero]
            refine plan_read _ (hi_of HO rfl) (by rw [HO.out]; rfl) (fun w' hE => by have hcE := (Ext.trans _ _ _ (by (repeat (first | exact hx1.out | apply Ext.drew | apply Ext.alloc))) hE).hc; (first | replace hE := Ext.unD hE | skip); have hcF := hE.hc; clear hE; go_simp; rfl) ?_
            simp only [Act.put, List.setIfInBounds_toArray, List.set_cons_succ, List.set_cons_zero]
            refine plan_skip (hi_of HO rfl) (by rw [HO.out]; rfl) ?_
            simp only [Act.put, List.setIfInBounds_toArray, List.set_cons_succ, List.set_cons_zero]
            refine plan_skip (hi_of HO rfl) (by rw [HO.out]; rfl) ?_
            simp only [Act.put, List.setIfInBounds_toArray, List.set_cons_succ, List.set_cons_zero]
            refine plan_skip (hi_of HO rfl) (by rw [HO.out]; rfl) ?_
            simp only [Act.put, List.setIfInBounds_toArray, List.set_cons_succ, List.set_cons_zero]
            refine plan_skip (hi_of HO rfl) (by rw [HO.out]; rfl) ?_
            simp only [Act.put, List.setIfInBounds_toArray, List.set_cons_succ, List.set_cons_zero]
            refine plan_skip (hi_of HO rfl) (by rw [HO.out]; rfl) ?_
            simp only [Act.put, List.setIfInBounds_toArray, List.set_cons_succ, List.set_cons_zero]
            refine plan_skip (hi_of HO rfl) (by rw [HO.out]; rfl) ?_
            simp only [Act.put, List.setIfInBounds_toArray, List.set_cons_succ, List.set_cons_zero]
            refine plan_skip (hi_of HO rfl) (by rw [HO.out]; rfl) ?_
            simp only [Act.put, List.setIfInBounds_toArray, List.set_cons_succ, List.set_cons_zero]
            refine plan_skip (hi_of HO rfl) (by rw [HO.out]; rfl) ?_
            simp only [Act.put, List.setIfInBounds_toArray, List.set_cons_succ, List.set_cons_zero]
            refine plan_skip (hi_of HO rfl) (by rw [HO.out]; rfl) ?_
            simp only [Act.put, List.setIfInBounds_toArray, List.set_cons_succ, List.set_cons_zero]
            refine plan_skip (hi_of HO rfl) (by rw [HO.out]; rfl) ?_
            simp only [Act.put, List.setIfInBounds_toArray, List.set_cons_succ, List.set_cons_zero]
            refine plan_skip (hi_of HO rfl) (by rw [HO.out]; rfl) ?_
            simp only [Act.put, List.setIfInBounds_toArray, List.set_cons_succ, List.set_cons_zero]
            refine plan_skip (hi_of HO rfl) (by rw [HO.out]; rfl) ?_
            simp only [Act.put, List.setIfInBounds_toArray, List.set_cons_succ, List.set_cons_zero]
            refine plan_skip (hi_of HO rfl) (by rw [HO.out]; rfl) ?_
            simp only [Act.put, List.setIfInBounds_toArray, List.set_cons_succ, List.set_cons_zero]
            refine plan_skip (hi_of HO rfl) (by rw [HO.out]; rfl) ?_
            simp only [Act.put, List.setIfInBounds_toArray, List.set_cons_succ, List.set_cons_zero]
            refine plan_skip (hi_of HO rfl) (by rw [HO.out]; rfl) ?_
            simp only [Act.put, List.setIfInBounds_toArray, List.set_cons_succ, List.set_cons_zero]
            refine plan_skip (hi_of HO rfl) (by rw [HO.out]; rfl) ?_
            simp only [Act.put, List.setIfInBounds_toArray, List.set_cons_succ, List.set_cons_zero]
            refine plan_skip (hi_of HO rfl) (by rw [HO.out]; rfl) ?_
            simp only [Act.put, List.setIfInBounds_toArray, List.set_cons_succ, List.set_cons_zero]
            refine plan_skip (hi_of HO rfl) (by rw [HO.out]; rfl) ?_
            simp only [Act.put, List.setIfInBounds_toArray, List.set_cons_succ, List.set_cons_zero]
            refine plan_skip (hi_of HO rfl) (by rw [HO.out]; rfl) ?_
            simp only [Act.put, List.setIfInBounds_toArray, List.set_cons_succ, List.set_cons_zero]
            refine plan_skip (hi_of HO rfl) (by rw [HO.out]; rfl) ?_
            simp only [Act.put, List.setIfInBounds_toArray, List.set_cons_succ, List.set_cons_zero]
            refine plan_read _ (hi_of HO rfl) (by rw [HO.out]; rfl) (fun w' hE => by have hcE := (Ext.trans _ _ _ (by (repeat (first | exact hx1.out | apply Ext.drew | apply Ext.alloc))) hE).hc; (first | replace hE := Ext.unD hE | skip); have hcF := hE.hc; clear hE; go_simp; rfl) ?_
            simp only [Act.put, List.setIfInBounds_toArray, List.set_cons_succ, List.set_cons_zero]
            refine plan_read _ (hi_of HO rfl) rfl (fun w' hE => by have hcE := (Ext.trans _ _ _ (by (repeat (first | exact hx1.out | apply Ext.drew | apply Ext.alloc))) hE).hc; (first | replace hE := Ext.unD hE | skip); have hcF := hE.hc; clear hE; go_simp; rfl) ?_
            simp only [Act.put, List.setIfInBounds_toArray, List.set_cons_succ, List.set_cons_zero]
            refine plan_done ?fin102
          case' hT101 =>
            intro hb101
            simp only [Act.put, List.setIfInBounds_toArray, List.set_cons_succ, List.set_cons_zero]
            refine plan_read _ (hi_of HO rfl) (by rw [HO.out]; rfl) (fun w' hE => by have hcE := (Ext.trans _ _ _ (by (repeat (first | exact hx1.out | apply Ext.drew | apply Ext.alloc))) hE).hc; (first | replace hE := Ext.unD hE | skip); have hcF := hE.hc; clear hE; go_simp; rfl) ?_
            simp only [Act.put, List.setIfInBounds_toArray, List.set_cons_succ, List.set_cons_zero]
            refine plan_read _ (hi_of HO rfl) (by rw [HO.out]; rfl) (fun w' hE => by have hcE := (Ext.trans _ _ _ (by (repeat (first | exact hx1.out | apply Ext.drew | apply Ext.alloc))) hE).hc; (first | replace hE := Ext.unD hE | skip); have hcF := hE.hc; clear hE; go_simp; rfl) ?_
            simp only [Act.put, List.setIfInBounds_toArray, List.set_cons_succ, List.set_cons_zero]
            refine plan_read _ (hi_of HO rfl) (by rw [HO.out]; rfl) (fun w' hE => by have hcE := (Ext.trans _ _ _ (by (repeat (first | exact hx1.out | apply Ext.drew | apply Ext.alloc))) hE).hc; (first | replace hE := Ext.unD hE | skip); have hcF := hE.hc; clear hE; go_simp; rfl) ?_
            simp only [Act.put, List.setIfInBounds_toArray, List.set_cons_succ, List.set_cons_zero]
            refine plan_read _ (hi_of HO rfl) (by rw [HO.out]; rfl) (fun w' hE => by have hcE := (Ext.trans _ _ _ (by (repeat (first | exact hx1.out | apply Ext.drew | apply Ext.alloc))) hE).hc; (first | replace hE := Ext.unD hE | skip); have hcF := hE.hc; clear hE; go_simp; rfl) ?_
            simp only [Act.put, List.setIfInBounds_toArray, List.set_cons_succ, List.set_cons_zero]
            refine plan_read _ (hi_of HO rfl) (by rw [HO.out]; rfl) (fun w' hE => by have hcE := (Ext.trans _ _ _ (by (repeat (first | exact hx1.out | apply Ext.drew | apply Ext.alloc))) hE).hc; (first | replace hE := Ext.unD hE | skip); have hcF := hE.hc; clear hE; go_simp; rfl) ?_
            simp only [Act.put, List.setIfInBounds_toArray, List.set_cons_succ, List.set_cons_zero]
            refine plan_read _ (hi_of HO rfl) (by rw [HO.out]; rfl) (fun w' hE => by have hcE := (Ext.trans _ _ _ (by (repeat (first | exact hx1.out | apply Ext.drew | apply Ext.alloc))) hE).hc; (first | replace hE := Ext.unD hE | skip); have hcF := hE.hc; clear hE; go_simp; rfl) ?_
            simp only [Act.put, List.setIfInBounds_toArray, List.set_cons_succ, List.set_cons_zero]
            refine plan_read _ (hi_of HO rfl) (by rw [HO.out]; rfl) (fun w' hE => by have hcE := (Ext.trans _ _ _ (by (repeat (first | exact hx1.out | apply Ext.drew | apply Ext.alloc))) hE).hc; (first | replace hE := Ext.unD hE | skip); have hcF := hE.hc; clear hE; go_simp; rfl) ?_
            simp only [Act.put, List.setIfInBounds_toArray, List.set_cons_succ, List.set_cons_zero]
            refine plan_read _ (hi_of HO rfl) rfl (fun w' hE => by have hcE := (Ext.trans _ _ _ (by (repeat (first | exact hx1.out | apply Ext.drew | apply Ext.alloc))) hE).hc; (first | replace hE := Ext.unD hE | skip); have hcF := hE.hc; clear hE; go_simp; rfl) ?_
            simp only [Act.put, List.setIfInBounds_toArray, List.set_cons_succ, List.set_cons_zero]
            refine plan_boolc _ (hi_of HO rfl) rfl (fun w' hE => by have hcE := (Ext.trans _ _ _ (by (repeat (first | exact hx1.out | apply Ext.drew | apply Ext.alloc))) hE).hc; (first | replace hE := Ext.unD hE | skip); have hcF := hE.hc; clear hE; go_simp; rfl) (by rfl) ?hF103 ?hT103
            case' hF103 =>
              intro hb103
              simp only [Act.put, List.setIfInBounds_toArray, List.set_cons_succ, List.set_cons_zero]
              refine plan_read _ (hi_of HO rfl) (by rw [HO.out]; rfl) (fun w' hE => by have hcE := (Ext.trans _ _ _ (by (repeat (first | exact hx1.out | apply Ext.drew | apply Ext.alloc))) hE).hc; (first | replace hE := Ext.unD hE | skip); have hcF := hE.hc; clear hE; go_simp; rfl) ?_
              simp only [Act.put, List.setIfInBounds_toArray, List.set_cons_succ, List.set_cons_zero]
              refine plan_read _ (hi_of HO rfl) (by rw [HO.out]; rfl) (fun w' hE => by have hcE := (Ext.trans _ _ _ (by (repeat (first | exact hx1.out | apply Ext.drew | apply Ext.alloc))) hE).hc; (first | replace hE := Ext.unD hE | skip); have hcF := hE.hc; clear hE; go_simp; rfl) ?_
              simp only [Act.put, List.setIfInBounds_toArray, List.set_cons_succ, List.set_cons_zero]
              refine plan_read _ (hi_of HO rfl) (by rw [HO.out]; rfl) (fun w' hE => by have hcE := (Ext.trans _ _ _ (by (repeat (first | exact hx1.out | apply Ext.drew | apply Ext.alloc))) hE).hc; (first | replace hE := Ext.unD hE | skip); have hcF := hE.hc; clear hE; go_simp; rfl) ?_
              simp only [Act.put, List.setIfInBounds_toArray, List.set_cons_succ, List.set_cons_zero]
              refine plan_skip (hi_of HO rfl) (by rw [HO.out]; rfl) ?_
              simp only [Act.put, List.setIfInBounds_toArray, List.set_cons_succ, List.set_cons_zero]
              refine plan_skip (hi_of HO rfl) (by rw [HO.out]; rfl) ?_
              simp only [Act.put, List.setIfInBounds_toArray, List.set_cons_succ, List.set_cons_zero]
              refine plan_skip (hi_of HO rfl) (by rw [HO.out]; rfl) ?_
              simp only [Act.put, List.setIfInBounds_toArray, List.set_cons_succ, List.set_cons_zero]
              refine plan_skip (hi_of HO rfl) (by rw [HO.out]; rfl) ?_
              simp only [Act.put, List.setIfInBounds_toArray, List.set_cons_succ, List.set_cons_zero]
              refine plan_skip (hi_of HO rfl) (by rw [HO.out]; rfl) ?_
              simp only [Act.put, List.setIfInBounds_toArray, List.set_cons_succ, List.set_cons_zero]
              refine plan_skip (hi_of HO rfl) (by rw [HO.out]; rfl) ?_
              simp only [Act.put, List.setIfInBounds_toArray, List.set_cons_succ, List.set_cons_zero]
              refine plan_skip (hi_of HO rfl) (by rw [HO.out]; rfl) ?_
              simp only [Act.put, List.setIfInBounds_toArray, List.set_cons_succ, List.set_cons_zero]
              refine plan_skip (hi_of HO rfl) (by rw [HO.out]; rfl) ?_
              simp only [Act.put, List.setIfInBounds_toArray, List.set_cons_succ, List.set_cons_zero]
              refine plan_skip (hi_of HO rfl) (by rw [HO.out]; rfl) ?_
              simp only [Act.put, List.setIfInBounds_toArray, List.set_cons_succ, List.set_cons_zero]
              refine plan_skip (hi_of HO rfl) (by rw [HO.out]; rfl) ?_
              simp only [Act.put, List.setIfInBounds_toArray, List.set_cons_succ, List.set_cons_zero]
              refine plan_skip (hi_of HO rfl) (by rw [HO.out]; rfl) ?_
              simp only [Act.put, List.setIfInBounds_toArray, List.set_cons_succ, List.set_cons_zero]
              refine plan_skip (hi_of HO rfl) (by rw [HO.out]; rfl) ?_
              simp only [Act.put, List.setIfInBounds_toArray, List.set_cons_succ, List.set_cons_zero]
              refine plan_skip (hi_of HO rfl) (by rw [HO.out]; rfl) ?_
              simp only [Act.put, List.setIfInBounds_toArray, List.set_cons_succ, List.set_cons_zero]
              refine plan_skip (hi_of HO rfl) (by rw [HO.out]; rfl) ?_
              simp only [Act.put, List.setIfInBounds_toArray, List.set_cons_succ, List.set_cons_zero]
              refine plan_skip (hi_of HO rfl) (by rw [HO.out]; rfl) ?_
              simp only [Act.put, List.setIfInBounds_toArray, List.set_cons_succ, List.set_cons_zero]
              refine plan_skip (hi_of HO rfl) (by rw [HO.out]; rfl) ?_
              simp only [Act.put, List.setIfInBounds_toArray, List.set_cons_succ, List.set_cons_zero]
              refine plan_skip (hi_of HO rfl) (by rw [HO.out]; rfl) ?_
              simp only [Act.put, List.setIfInBounds_toArray, List.set_cons_succ, List.set_cons_zero]
              refine plan_skip (hi_of HO rfl) (by rw [HO.out]; rfl) ?_
              simp only [Act.put, List.setIfInBounds_toArray, List.set_cons_succ, List.set_cons_zero]
              refine plan_skip (hi_of HO rfl) (by rw [HO.out]; rfl) ?_
              simp only [Act.put, List.setIfInBounds_toArray, List.set_cons_succ, List.set_cons_zero]
              refine plan_skip (hi_of HO rfl) (by rw [HO.out]; rfl) ?_
              simp only [Act.put, List.setIfInBounds_toArray, List.set_cons_succ, List.set_cons_zero]
              refine plan_read _ (hi_of HO rfl) (by rw [HO.out]; rfl) (fun w' hE => by have hcE := (Ext.trans _ _ _ (by (repeat (first | exact hx1.out | apply Ext.drew | apply Ext.alloc))) hE).hc; (first | replace hE := Ext.unD hE | skip); have hcF := hE.hc; clear hE; go_simp; rfl) ?_
              simp only [Act.put, List.setIfInBounds_toArray, List.set_cons_succ, List.set_cons_zero]
              refine plan_read _ (hi_of HO rfl) rfl (fun w' hE => by have hcE := (Ext.trans _ _ _ (by (repeat (first | exact hx1.out | apply Ext.drew | apply Ext.alloc))) hE).hc; (first | replace hE := Ext.unD hE | skip); have hcF := hE.hc; clear hE; go_simp; rfl) ?_
              simp only [Act.put, List.setIfInBounds_toArray, List.set_cons_succ, List.set_cons_zero]
              refine plan_done ?fin104
            case' hT103 =>
              intro hb103
              simp only [Act.put, List.setIfInBounds_toArray, List.set_cons_succ, List.set_cons_zero]
              refine plan_skip (hi_of HO rfl) (by rw [HO.out]; rfl) ?_
              simp only [Act.put, List.setIfInBounds_toArray, List.set_cons_succ, List.set_cons_zero]
              refine plan_skip (hi_of HO rfl) (by rw [HO.out]; rfl) ?_
              simp only [Act.put, List.setIfInBounds_toArray, List.set_cons_succ, List.set_cons_zero]
              refine plan_skip (hi_of HO rfl) (by rw [HO.out]; rfl) ?_
              simp only [Act.put, List.setIfInBounds_toArray, List.set_cons_succ, List.set_cons_zero]
              refine plan_skip (hi_of HO rfl) (by rw [HO.out]; rfl) ?_
              simp only [Act.put, List.setIfInBounds_toArray, List.set_cons_succ, List.set_cons_zero]
              refine plan_skip (hi_of HO rfl) (by rw [HO.out]; rfl) ?_
              simp only [Act.put, List.setIfInBounds_toArray, List.set_cons_succ, List.set_cons_zero]
              refine plan_skip (hi_of HO rfl) (by rw [HO.out]; rfl) ?_
              simp only [Act.put, List.setIfInBounds_toArray, List.set_cons_succ, List.set_cons_zero]
              refine plan_skip (hi_of HO rfl) (by rw [HO.out]; rfl) ?_
              simp only [Act.put, List.setIfInBounds_toArray, List.set_cons_succ, List.set_cons_zero]
              refine plan_skip (hi_of HO rfl) (by rw [HO.out]; rfl) ?_
              simp only [Act.put, List.setIfInBounds_toArray, List.set_cons_succ, List.set_cons_zero]
              refine plan_skip (hi_of HO rfl) (by rw [HO.out]; rfl) ?_
              simp only [Act.put, List.setIfInBounds_toArray, List.set_cons_succ, List.set_cons_zero]
              refine plan_skip (hi_of HO rfl) (by rw [HO.out]; rfl) ?_
              simp only [Act.put, List.setIfInBounds_toArray, List.set_cons_succ, List.set_cons_zero]
              refine plan_skip (hi_of HO rfl) (by rw [HO.out]; rfl) ?_
              simp only [Act.put, List.setIfInBounds_toArray, List.set_cons_succ, List.set_cons_zero]
              refine plan_skip (hi_of HO rfl) (by rw [HO.out]; rfl) ?_
              simp only [Act.put, List.setIfInBounds_toArray, List.set_cons_succ, List.set_cons_zero]
              refine plan_skip (hi_of HO rfl) (by rw [HO.out]; rfl) ?_
              simp only [Act.put, List.setIfInBounds_toArray, List.set_cons_succ, List.set_cons_zero]
              refine plan_skip (hi_of HO rfl) (by rw [HO.out]; rfl) ?_
              simp only [Act.put, List.setIfInBounds_toArray, List.set_cons_succ, List.set_cons_zero]
              refine plan_skip (hi_of HO rfl) (by rw [HO.out]; rfl) ?_
              simp only [Act.put, List.setIfInBounds_toArray, List.set_cons_succ, List.set_cons_zero]
              refine plan_skip (hi_of HO rfl) (by rw [HO.out]; rfl) ?_
              simp only [Act.put, List.setIfInBounds_toArray, List.set_cons_succ, List.set_cons_zero]
              refine plan_skip (hi_of HO rfl) (by rw [HO.out]; rfl) ?_
              simp only [Act.put, List.setIfInBounds_toArray, List.set_cons_succ, List.set_cons_zero]
              refine plan_skip (hi_of HO rfl) (by rw [HO.out]; rfl) ?_
              simp only [Act.put, List.setIfInBounds_toArray, List.set_cons_succ, List.set_cons_zero]
              refine plan_skip (hi_of HO rfl) (by rw [HO.out]; rfl) ?_
              simp only [Act.put, List.setIfInBounds_toArray, List.set_cons_succ, List.set_cons_zero]
              refine plan_skip (hi_of HO rfl) (by rw [HO.out]; rfl) ?_
              simp only [Act.put, List.setIfInBounds_toArray, List.set_cons_succ, List.set_cons_zero]
              refine plan_skip (hi_of HO rfl) (by rw [HO.out]; rfl) ?_
              simp only [Act.put, List.setIfInBounds_toArray, List.set_cons_succ, List.set_cons_zero]
              refine plan_skip (hi_of HO rfl) (by rw [HO.out]; rfl) ?_
              simp only [Act.put, List.setIfInBounds_toArray, List.set_cons_succ, List.set_cons_zero]
              refine plan_skip (hi_of HO rfl) (by rw [HO.out]; rfl) ?_
              simp only [Act.put, List.setIfInBounds_toArray, List.set_cons_succ, List.set_cons_zero]
              refine plan_skip (hi_of HO rfl) (by rw [HO.out]; rfl) ?_
              simp only [Act.put, List.setIfInBounds_toArray, List.set_cons_succ, List.set_cons_zero]
              refine plan_read _ (hi_of HO rfl) rfl (fun w' hE => by have hcE := (Ext.trans _ _ _ (by (repeat (first | exact hx1.out | apply Ext.drew | apply Ext.alloc))) hE).hc; (first | replace hE := Ext.unD hE | skip); have hcF := hE.hc; clear hE; go_simp; rfl) ?_
              simp only [Act.put, List.setIfInBounds_toArray, List.set_cons_succ, List.set_cons_zero]
              refine plan_done ?fin105
          all_goals go_wp2
          all_goals first
            | (go_ret
               refine ⟨ret_int ?_, Ext.trans _ _ _ HX0.out (by (repeat (first | exact Ext.refl _ | apply Ext.drew_left | apply Ext.drew | apply Ext.alloc)))⟩
               rw [HQ.out, if_neg (by simp [HF.out]), if_neg (by simp [HZ.out])]
               clear hc1 hl1 he1 hn1
               first
                 | (rw [if_pos (by simp [tilesBad, hnil.out, *])]; done)
                 | (rw [if_neg (by simp [tilesBad, hnil.out, *]), if_neg (by simp), if_pos (by simp_all [tallyBad]; done)]; done)
                 | (rw [if_neg (by simp [tilesBad, hnil.out, *]), if_neg (by simp), if_pos (by simp_all [tallyBad]; omega)]; done)
                 | (rw [if_neg (by simp [tilesBad, hnil.out, *]), if_neg (by simp), if_neg (by simp_all [tallyBad]; done)]; done)
                 | (rw [if_neg (by simp [tilesBad, hnil.out, *]), if_neg (by simp), if_neg (by simp_all [tallyBad]; omega)]; done))
        · obtain ⟨qv, hB⟩ := HL.out m (by omega)
          replace hB := hB.ext HX0.out
          have hb2 := hB.c2
          have hb3 := hB.c3
          have hbB := cell_lt hb2
          clear hB
          have hlt1 : (m : Int) + 1 < (l.length : Int) := by omega
          have hlt2 : (0 : Int) ≤ (m : Int) + 1 := by omega
          have hlt3 : (m : Int) < (l.length : Int) := by omega
          have hlt4 : IntKind.i64.wrap (m : Int) = m := wrapN m (by have := hlc'.out; omega)
          have hprev := hid_mk (show prevPrt l (m + 1) = some l[m] by simp [prevPrt, show m < l.length by omega])
          generalize l[m] = q at *
          go_wp2_with fail
          refine wp_region_held_below (fun _ => true) (.quiet 0 (.quiet 1 (.quiet 2 (.quiet 3 (.quiet 4 (.quiet 5 (.quiet 6 (.quiet 7 (.quiet 8 (.quiet 9 (.quiet 10 (.quiet 11 (.quiet 12 (.quiet 13 (.quiet 14 (.quiet 15 (.quiet 16 (.quiet 17 (.quiet 18 (.quiet 19 (.quiet 20 (.quiet 21 (.quiet 22 (.quiet 23 (.quiet 24 (.quiet 25 (.quiet 26 (.quiet 27 (.quiet 28 (.quiet 29 (.quiet 30 (.quiet 31 (.quiet 32 (.quiet 33 (.quiet 34 (.quiet 35 (.quiet 36 (.quiet 37 (.quiet 38 .done))))))))))))))))))))))))))))))))))))))) (by kernel_rfl) (by kernel_rfl) (by intro c a w d v h; cases d <;> exact h) (fun ops HO => ?_)
          refine plan_read _ (hi_of HO rfl) rfl (fun w' hE => by have hcE := (Ext.trans _ _ _ (by (repeat (first | exact hx1.out | apply Ext.drew | apply Ext.alloc))) hE).hc; (first | replace hE := Ext.unD hE | skip); have hcF := hE.hc; clear hE; go_simp; rfl) ?_
          simp only [Act.put, List.setIfInBounds_toArray, List.set_cons_succ, List.set_cons_zero]
          refine plan_read _ (hi_of HO rfl) rfl (fun w' hE => by have hcE := (Ext.trans _ _ _ (by (repeat (first | exact hx1.out | apply Ext.drew | apply Ext.alloc))) hE).hc; (first | replace hE := Ext.unD hE | skip); have hcF := hE.hc; clear hE; go_simp; rfl) ?_
          simp only [Act.put, List.setIfInBounds_toArray, List.set_cons_succ, List.set_cons_zero]
          refine plan_read _ (hi_of HO rfl) rfl (fun w' hE => by have hcE := (Ext.trans _ _ _ (by (repeat (first | exact hx1.out | apply Ext.drew | apply Ext.alloc))) hE).hc; (first | replace hE := Ext.unD hE | skip); have hcF := hE.hc; clear hE; go_simp; rfl) ?_
          simp only [Act.put, List.setIfInBounds_toArray, List.set_cons_succ, List.set_cons_zero]
          refine plan_read _ (hi_of HO rfl) rfl (fun w' hE => by have hcE := (Ext.trans _ _ _ (by (repeat (first | exact hx1.out | apply Ext.drew | apply Ext.alloc))) hE).hc; (first | replace hE := Ext.unD hE | skip); have hcF := hE.hc; clear hE; go_simp; rfl) ?_
          simp only [Act.put, List.setIfInBounds_toArray, List.set_cons_succ, List.set_cons_zero]
          refine plan_boolc _ (hi_of HO rfl) rfl (fun w' hE => by have hcE := (Ext.trans _ _ _ (by (repeat (first | exact hx1.out | apply Ext.drew | apply Ext.alloc))) hE).hc; (first | replace hE := Ext.unD hE | skip); have hcF := hE.hc; clear hE; go_simp; rfl) (by rfl) ?hF106 ?hT106
          case' hF106 =>
            intro hb106
            simp only [Act.put, List.setIfInBounds_toArray, List.set_cons_succ, List.set_cons_zero]
            refine plan_skip (hi_of HO rfl) (by rw [HO.out]; rfl) ?_
            simp only [Act.put, List.setIfInBounds_toArray, List.set_cons_succ, List.set_cons_zero]
            refine plan_skip (hi_of HO rfl) (by rw [HO.out]; rfl) ?_
            simp only [Act.put, List.setIfInBounds_toArray, List.set_cons_succ, List.set_cons_zero]
            refine plan_skip (hi_of HO rfl) (by rw [HO.out]; rfl) ?_
            simp only [Act.put, List.setIfInBounds_toArray, List.set_cons_succ, List.set_cons_zero]
            refine plan_skip (hi_of HO rfl) (by rw [HO.out]; rfl) ?_
            simp only [Act.put, List.setIfInBounds_toArray, List.set_cons_succ, List.set_cons_zero]
            refine plan_skip (hi_of HO rfl) (by rw [HO.out]; rfl) ?_
            simp only [Act.put, List.setIfInBounds_toArray, List.set_cons_succ, List.set_cons_zero]
            refine plan_skip (hi_of HO rfl) (by rw [HO.out]; rfl) ?_
            simp only [Act.put, List.setIfInBounds_toArray, List.set_cons_succ, List.set_cons_zero]
            refine plan_skip (hi_of HO rfl) (by rw [HO.out]; rfl) ?_
            simp only [Act.put, List.setIfInBounds_toArray, List.set_cons_succ, List.set_cons_zero]
            refine plan_read _ (hi_of HO rfl) rfl (fun w' hE => by have hcE := (Ext.trans _ _ _ (by (repeat (first | exact hx1.out | apply Ext.drew | apply Ext.alloc))) hE).hc; (first | replace hE := Ext.unD hE | skip); have hcF := hE.hc; clear hE; go_simp; rfl) ?_
            simp only [Act.put, List.setIfInBounds_toArray, List.set_cons_succ, List.set_cons_zero]
            refine plan_read _ (hi_of HO rfl) rfl (fun w' hE => by have hcE := (Ext.trans _ _ _ (by (repeat (first | exact hx1.out | apply Ext.drew | apply Ext.alloc))) hE).hc; (first | replace hE := Ext.unD hE | skip); have hcF := hE.hc; clear hE; go_simp; rfl) ?_
            simp only [Act.put, List.setIfInBounds_toArray, List.set_cons_succ, List.set_cons_zero]
            refine plan_read _ (hi_of HO rfl) (by rw [HO.out]; rfl) (fun w' hE => by have hcE := (Ext.trans _ _ _ (by (repeat (first | exact hx1.out | apply Ext.drew | apply Ext.alloc))) hE).hc; (first | replace hE := Ext.unD hE | skip); have hcF := hE.hc; clear hE; go_simp; rfl) ?_
            simp only [Act.put, List.setIfInBounds_toArray, List.set_cons_succ, List.set_cons_zero]
            refine plan_read _ (hi_of HO rfl) (by rw [HO.out]; rfl) (fun w' hE => by have hcE := (Ext.trans _ _ _ (by (repeat (first | exact hx1.out | apply Ext.drew | apply Ext.alloc))) hE).hc; (first | replace hE := Ext.unD hE | skip); have hcF := hE.hc; clear hE; go_simp; rfl) ?_
            simp only [Act.put, List.setIfInBounds_toArray, List.set_cons_succ, List.set_cons_zero]
            refine plan_read _ (hi_of HO rfl) (by rw [HO.out]; rfl) (fun w' hE => by have hcE := (Ext.trans _ _ _ (by (repeat (first | exact hx1.out | apply Ext.drew | apply Ext.alloc))) hE).hc; (first | replace hE := Ext.unD hE | skip); have hcF := hE.hc; clear hE; go_simp; rfl) ?_
            simp only [Act.put, List.setIfInBounds_toArray, List.set_cons_succ, List.set_cons_zero]
            refine plan_read _ (hi_of HO rfl) (by rw [HO.out]; rfl) (fun w' hE => by have hcE := (Ext.trans _ _ _ (by (repeat (first | exact hx1.out | apply Ext.drew | apply Ext.alloc))) hE).hc; (first | replace hE := Ext.unD hE | skip); have hcF := hE.hc; clear hE; go_simp; rfl) ?_
            simp only [Act.put, List.setIfInBounds_toArray, List.set_cons_succ, List.set_cons_zero]
            refine plan_read _ (hi_of HO rfl) (by rw [HO.out]; rfl) (fun w' hE => by have hcE := (Ext.trans _ _ _ (by (repeat (first | exact hx1.out | apply Ext.drew | apply Ext.alloc))) hE).hc; (first | replace hE := Ext.unD hE | skip); have hcF := hE.hc; clear hE; go_simp; rfl) ?_
            simp only [Act.put, List.setIfInBounds_toArray, List.set_cons_succ, List.set_cons_zero]
            refine plan_read _ (hi_of HO rfl) (by rw [HO.out]; rfl) (fun w' hE => by have hcE := (Ext.trans _ _ _ (by (repeat (first | exact hx1.out | apply Ext.drew | apply Ext.alloc))) hE).hc; (first | replace hE := Ext.unD hE | skip); have hcF := hE.hc; clear hE; go_simp; rfl) ?_
            simp only [Act.put, List.setIfInBounds_toArray, List.set_cons_succ, List.set_cons_zero]
            refine plan_read _ (hi_of HO rfl) (by rw [HO.out]; rfl) (fun w' hE => by have hcE := (Ext.trans _ _ _ (by (repeat (first | exact hx1.out | apply Ext.drew | apply Ext.alloc))) hE).hc; (first | replace hE := Ext.unD hE | skip); have hcF := hE.hc; clear hE; go_simp; rfl) ?_
            simp only [Act.put, List.setIfInBounds_toArray, List.set_cons_succ, List.set_cons_zero]
            refine plan_read _ (hi_of HO rfl) (by rw [HO.out]; rfl) (fun w' hE => by have hcE := (Ext.trans _ _ _ (by (repeat (first | exact hx1.out | apply Ext.drew | apply Ext.alloc))) hE).hc; (first | replace hE := Ext.unD hE | skip); have hcF := hE.hc; clear hE; go_simp; rfl) ?_
            simp only [Act.put, List.setIfInBounds_toArray, List.set_cons_succ, List.set_cons_zero]
            refine plan_read _ (hi_of HO rfl) (by rw [HO.out]; rfl) (fun w' hE => by have hcE := (Ext.trans _ _ _ (by (repeat (first | exact hx1.out | apply Ext.drew | apply Ext.alloc))) hE).hc; (first | replace hE := Ext.unD hE | skip); have hcF := hE.hc; clear hE; go_simp; rfl) ?_
            simp only [Act.put, List.setIfInBounds_toArray, List.set_cons_succ, List.set_cons_zero]
            refine plan_read _ (hi_of HO rfl) (by rw [HO.out]; rfl) (fun w' hE => by have hcE := (Ext.trans _ _ _ (by (repeat (first | exact hx1.out | apply Ext.drew | apply Ext.alloc))) hE).hc; (first | replace hE := Ext.unD hE | skip); have hcF := hE.hc; clear hE; go_simp; rfl) ?_
            simp only [Act.put, List.setIfInBounds_toArray, List.set_cons_succ, List.set_cons_zero]
            refine plan_boolc _ (hi_of HO rfl) (by rw [HO.out]; rfl) (fun w' hE => by have hcE := (Ext.trans _ _ _ (by (repeat (first | exact hx1.out | apply Ext.drew | apply Ext.alloc))) hE).hc; (first | replace hE := Ext.unD hE | skip); have hcF := hE.hc; clear hE; go_simp; rfl) (by rfl) ?hF107 ?hT107
            case' hF107 =>
              intro hb107
              simp only [Act.put, List.setIfInBounds_toArray, List.set_cons_succ, List.set_cons_zero]
              refine plan_read _ (hi_of HO rfl) (by rw [HO.out]; rfl) (fun w' hE => by have hcE := (Ext.trans _ _ _ (by (repeat (first | exact hx1.out | apply Ext.drew | apply Ext.alloc))) hE).hc; (first | replace hE := Ext.unD hE | skip); have hcF := hE.hc; clear hE; go_simp; rfl) ?_
              simp only [Act.put, List.setIfInBounds_toArray, List.set_cons_succ, List.set_cons_zero]
              refine plan_read _ (hi_of HO rfl) (by rw [HO.out]; rfl) (fun w' hE => by have hcE := (Ext.trans _ _ _ (by (repeat (first | exact hx1.out | apply Ext.drew | apply Ext.alloc))) hE).hc; (first | replace hE := Ext.unD hE | skip); have hcF := hE.hc; clear hE; go_simp; rfl) ?_
              simp only [Act.put, List.setIfInBounds_toArray, List.set_cons_succ, List.set_cons_zero]
              refine plan_read _ (hi_of HO rfl) (by rw [HO.out]; rfl) (fun w' hE => by have hcE := (Ext.trans _ _ _ (by (repeat (first | exact hx1.out | apply Ext.drew | apply Ext.alloc))) hE).hc; (first | replace hE := Ext.unD hE | skip); have hcF := hE.hc; clear hE; go_simp; rfl) ?_
              simp only [Act.put, List.setIfInBounds_toArray, List.set_cons_succ, List.set_cons_zero]
              refine plan_read _ (hi_of HO rfl) (by rw [HO.out]; rfl) (fun w' hE => by have hcE := (Ext.trans _ _ _ (by (repeat (first | exact hx1.out | apply Ext.drew | apply Ext.alloc))) hE).hc; (first | replace hE := Ext.unD hE | skip); have hcF := hE.hc; clear hE; go_simp; rfl) ?_
              simp only [Act.put, List.setIfInBounds_toArray, List.set_cons_succ, List.set_cons_zero]
              refine plan_read _ (hi_of HO rfl) (by rw [HO.out]; rfl) (fun w' hE => by have hcE := (Ext.trans _ _ _ (by (repeat (first | exact hx1.out | apply Ext.drew | apply Ext.alloc))) hE).hc; (first | replace hE := Ext.unD hE | skip); have hcF := hE.hc; clear hE; go_simp; rfl) ?_
              simp only [Act.put, List.setIfInBounds_toArray, List.set_cons_succ, List.set_cons_zero]
              refine plan_read _ (hi_of HO rfl) (by rw [HO.out]; rfl) (fun w' hE => by have hcE := (Ext.trans _ _ _ (by (repeat (first | exact hx1.out | apply Ext.drew | apply Ext.alloc))) hE).hc; (first | replace hE := Ext.unD hE | skip); have hcF := hE.hc; clear hE; go_simp; rfl) ?_
              simp only [Act.put, List.setIfInBounds_toArray, List.set_cons_succ, List.set_cons_zero]
              refine plan_read _ (hi_of HO rfl) (by rw [HO.out]; rfl) (fun w' hE => by have hcE := (Ext.trans _ _ _ (by (repeat (first | exact hx1.out | apply Ext.drew | apply Ext.alloc))) hE).hc; (first | replace hE := Ext.unD hE | skip); have hcF := hE.hc; clear hE; go_simp; rfl) ?_
              simp only [Act.put, List.setIfInBounds_toArray, List.set_cons_succ, List.set_cons_zero]
              refine plan_read _ (hi_of HO rfl) (by rw [HO.out]; rfl) (fun w' hE => by have hcE := (Ext.trans _ _ _ (by (repeat (first | exact hx1.out | apply Ext.drew | apply Ext.alloc))) hE).hc; (first | replace hE := Ext.unD hE | skip); have hcF := hE.hc; clear hE; go_simp; rfl) ?_
              simp only [Act.put, List.setIfInBounds_toArray, List.set_cons_succ, List.set_cons_zero]
              refine plan_read _ (hi_of HO rfl) (by rw [HO.out]; rfl) (fun w' hE => by have hcE := (Ext.trans _ _ _ (by (repeat (first | exact hx1.out | apply Ext.drew | apply Ext.alloc))) hE).hc; (first | replace hE := Ext.unD hE | skip); have hcF := hE.hc; clear hE; go_simp; rfl) ?_
              simp only [Act.put, List.setIfInBounds_toArray, List.set_cons_succ, List.set_cons_zero]
              refine plan_read _ (hi_of HO rfl) (by rw [HO.out]; rfl) (fun w' hE => by have hcE := (Ext.trans _ _ _ (by (repeat (first | exact hx1.out | apply Ext.drew | apply Ext.alloc))) hE).hc; (first | replace hE := Ext.unD hE | skip); have hcF := hE.hc; clear hE; go_simp; rfl) ?_
              simp only [Act.put, List.setIfInBounds_toArray, List.set_cons_succ, List.set_cons_zero]
              refine plan_read _ (hi_of HO rfl) (by rw [HO.out]; rfl) (fun w' hE => by have hcE := (Ext.trans _ _ _ (by (repeat (first | exact hx1.out | apply Ext.drew | apply Ext.alloc))) hE).hc; (first | replace hE := Ext.unD hE | skip); have hcF := hE.hc; clear hE; go_simp; rfl) ?_
              simp only [Act.put, List.setIfInBounds_toArray, List.set_cons_succ, List.set_cons_zero]
              refine plan_read _ (hi_of HO rfl) (by rw [HO.out]; rfl) (fun w' hE => by have hcE := (Ext.trans _ _ _ (by (repeat (first | exact hx1.out | apply Ext.drew | apply Ext.alloc))) hE).hc; (first | replace hE := Ext.unD hE | skip); have hcF := hE.hc; clear hE; go_simp; rfl) ?_
              simp only [Act.put, List.setIfInBounds_toArray, List.set_cons_succ, List.set_cons_zero]
              refine plan_read _ (hi_of HO rfl) (by rw [HO.out]; rfl) (fun w' hE => by have hcE := (Ext.trans _ _ _ (by (repeat (first | exact hx1.out | apply Ext.drew | apply Ext.alloc))) hE).hc; (first | replace hE := Ext.unD hE | skip); have hcF := hE.hc; clear hE; go_simp; rfl) ?_
              simp only [Act.put, List.setIfInBounds_toArray, List.set_cons_succ, List.set_cons_zero]
              refine plan_read _ (hi_of HO rfl) rfl (fun w' hE => by have hcE := (Ext.trans _ _ _ (by (repeat (first | exact hx1.out | apply Ext.drew | apply Ext.alloc))) hE).hc; (first | replace hE := Ext.unD hE | skip); have hcF := hE.hc; clear hE; go_simp; rfl) ?_
              simp only [Act.put, List.setIfInBounds_toArray, List.set_cons_succ, List.set_cons_zero]
              refine plan_done ?fin108
            case' hT107 =>
              intro hb107
              simp only [Act.put, List.setIfInBounds_toArray, List.set_cons_succ, List.set_cons_zero]
              refine plan_skip (hi_of HO rfl) (by rw [HO.out]; rfl) ?_
              simp only [Act.put, List.setIfInBounds_toArray, List.set_cons_succ, List.set_cons_zero]
              refine plan_skip (hi_of HO rfl) (by rw [HO.out]; rfl) ?_
              simp only [Act.put, List.setIfInBounds_toArray, List.set_cons_succ, List.set_cons_zero]
              refine plan_skip (hi_of HO rfl) (by rw [HO.out]; rfl) ?_
              simp only [Act.put, List.setIfInBounds_toArray, List.set_cons_succ, List.set_cons_zero]
              refine plan_skip (hi_of HO rfl) (by rw [HO.out]; rfl) ?_
              simp only [Act.put, List.setIfInBounds_toArray, List.set_cons_succ, List.set_cons_zero]
              refine plan_skip (hi_of HO rfl) (by rw [HO.out]; rfl) ?_
              simp only [Act.put, List.setIfInBounds_toArray, List.set_cons_succ, List.set_cons_zero]
              refine plan_skip (hi_of HO rfl) (by rw [HO.out]; rfl) ?_
              simp only [Act.put, List.setIfInBounds_toArray, List.set_cons_succ, List.set_cons_zero]
              refine plan_skip (hi_of HO rfl) (by rw [HO.out]; rfl) ?_
              simp only [Act.put, List.setIfInBounds_toArray, List.set_cons_succ, List.set_cons_zero]
              refine plan_skip (hi_of HO rfl) (by rw [HO.out]; rfl) ?_
              simp only [Act.put, List.setIfInBounds_toArray, List.set_cons_succ, List.set_cons_zero]
              refine plan_skip (hi_of HO rfl) (by rw [HO.out]; rfl) ?_
              simp only [Act.put, List.setIfInBounds_toArray, List.set_cons_succ, List.set_cons_zero]
              refine plan_skip (hi_of HO rfl) (by rw [HO.out]; rfl) ?_
              simp only [Act.put, List.setIfInBounds_toArray, List.set_cons_succ, List.set_cons_zero]
              refine plan_skip (hi_of HO rfl) (by rw [HO.out]; rfl) ?_
              simp only [Act.put, List.setIfInBounds_toArray, List.set_cons_succ, List.set_cons_zero]
              refine plan_read _ (hi_of HO rfl) (by rw [HO.out]; rfl) (fun w' hE => by have hcE := (Ext.trans _ _ _ (by (repeat (first | exact hx1.out | apply Ext.drew | apply Ext.alloc))) hE).hc; (first | replace hE := Ext.unD hE | skip); have hcF := hE.hc; clear hE; go_simp; rfl) ?_
              simp only [Act.put, List.setIfInBounds_toArray, List.set_cons_succ, List.set_cons_zero]
              refine plan_read _ (hi_of HO rfl) (by rw [HO.out]; rfl) (fun w' hE => by have hcE := (Ext.trans _ _ _ (by (repeat (first | exact hx1.out | apply Ext.drew | apply Ext.alloc))) hE).hc; (first | replace hE := Ext.unD hE | skip); have hcF := hE.hc; clear hE; go_simp; rfl) ?_
              simp only [Act.put, List.setIfInBounds_toArray, List.set_cons_succ, List.set_cons_zero]
              refine plan_read _ (hi_of HO rfl) rfl (fun w' hE => by have hcE := (Ext.trans _ _ _ (by (repeat (first | exact hx1.out | apply Ext.drew | apply Ext.alloc))) hE).hc; (first | replace hE := Ext.unD hE | skip); have hcF := hE.hc; clear hE; go_simp; rfl) ?_
              simp only [Act.put, List.setIfInBounds_toArray, List.set_cons_succ, List.set_cons_zero]
              refine plan_done ?fin109
          case' hT106 =>
            intro hb106
            simp only [Act.put, List.setIfInBounds_toArray, List.set_cons_succ, List.set_cons_zero]
            refine plan_read _ (hi_of HO rfl) (by rw [HO.out]; rfl) (fun w' hE => by have hcE := (Ext.trans _ _ _ (by (repeat (first | exact hx1.out | apply Ext.drew | apply Ext.alloc))) hE).hc; (first | replace hE := Ext.unD hE | skip); have hcF := hE.hc; clear hE; go_simp; rfl) ?_
            simp only [Act.put, List.setIfInBounds_toArray, List.set_cons_succ, List.set_cons_zero]
            refine plan_read _ (hi_of HO rfl) (by rw [HO.out]; rfl) (fun w' hE => by have hcE := (Ext.trans _ _ _ (by (repeat (first | exact hx1.out | apply Ext.drew | apply Ext.alloc))) hE).hc; (first | replace hE := Ext.unD hE | skip); have hcF := hE.hc; clear hE; go_simp; rfl) ?_
            simp only [Act.put, List.setIfInBounds_toArray, List.set_cons_succ, List.set_cons_zero]
            refine plan_read _ (hi_of HO rfl) (by rw [HO.out]; rfl) (fun w' hE => by have hcE := (Ext.trans _ _ _ (by (repeat (first | exact hx1.out | apply Ext.drew | apply Ext.alloc))) hE).hc; (first | replace hE := Ext.unD hE | skip); have hcF := hE.hc; clear hE; go_simp; rfl) ?_
            simp only [Act.put, List.setIfInBounds_toArray, List.set_cons_succ, List.set_cons_zero]
            refine plan_read _ (hi_of HO rfl) (by rw [HO.out]; rfl) (fun w' hE => by have hcE := (Ext.trans _ _ _ (by (repeat (first | exact hx1.out | apply Ext.drew | apply Ext.alloc))) hE).hc; (first | replace hE := Ext.unD hE | skip); have hcF := hE.hc; clear hE; go_simp; rfl) ?_
            simp only [Act.put, List.setIfInBounds_toArray, List.set_cons_succ, List.set_cons_zero]
            refine plan_read _ (hi_of HO rfl) (by rw [HO.out]; rfl) (fun w' hE => by have hcE := (Ext.trans _ _ _ (by (repeat (first | exact hx1.out | apply Ext.drew | apply Ext.alloc))) hE).hc; (first | replace hE := Ext.unD hE | skip); have hcF := hE.hc; clear hE; go_simp; rfl) ?_
            simp only [Act.put, List.setIfInBounds_toArray, List.set_cons_succ, List.set_cons_zero]
            refine plan_read _ (hi_of HO rfl) (by rw [HO.out]; rfl) (fun w' hE => by have hcE := (Ext.trans _ _ _ (by (repeat (first | exact hx1.out | apply Ext.drew | apply Ext.alloc))) hE).hc; (first | replace hE := Ext.unD hE | skip); have hcF := hE.hc; clear hE; go_simp; rfl) ?_
            simp only [Act.put, List.setIfInBounds_toArray, List.set_cons_succ, List.set_cons_zero]
            refine plan_read _ (hi_of HO rfl) (by rw [HO.out]; rfl) (fun w' hE => by have hcE := (Ext.trans _ _ _ (by (repeat (first | exact hx1.out | apply Ext.drew | apply Ext.alloc))) hE).hc; (first | replace hE := Ext.unD hE | skip); have hcF := hE.hc; clear hE; go_simp; rfl) ?_
            simp only [Act.put, List.setIfInBounds_toArray, List.set_cons_succ, List.set_cons_zero]
            refine plan_read _ (hi_of HO rfl) rfl (fun w' hE => by have hcE := (Ext.trans _ _ _ (by (repeat (first | exact hx1.out | apply Ext.drew | apply Ext.alloc))) hE).hc; (first | replace hE := Ext.unD hE | skip); have hcF := hE.hc; clear hE; go_simp; rfl) ?_
            simp only [Act.put, List.setIfInBounds_toArray, List.set_cons_succ, List.set_cons_zero]
            refine plan_boolc _ (hi_of HO rfl) rfl (fun w' hE => by have hcE := (Ext.trans _ _ _ (by (repeat (first | exact hx1.out | apply Ext.drew | apply Ext.alloc))) hE).hc; (first | replace hE := Ext.unD hE | skip); have hcF := hE.hc; clear hE; go_simp; rfl) (by rfl) ?hF110 ?hT110
            case' hF110 =>
              intro hb110
              simp only [Act.put, List.setIfInBounds_toArray, List.set_cons_succ, List.set_cons_zero]
              refine plan_read _ (hi_of HO rfl) (by rw [HO.out]; rfl) (fun w' hE => by have hcE := (Ext.trans _ _ _ (by (repeat (first | exact hx1.out | apply Ext.drew | apply Ext.alloc))) hE).hc; (first | replace hE := Ext.unD hE | skip); have hcF := hE.hc; clear hE; go_simp; rfl) ?_
              simp only [Act.put, List.setIfInBounds_toArray, List.set_cons_succ, List.set_cons_zero]
              refine plan_read _ (hi_of HO rfl) (by rw [HO.out]; rfl) (fun w' hE => by have hcE := (Ext.trans _ _ _ (by (repeat (first | exact hx1.out | apply Ext.drew | apply Ext.alloc))) hE).hc; (first | replace hE := Ext.unD hE | skip); have hcF := hE.hc; clear hE; go_simp; rfl) ?_
              simp only [Act.put, List.setIfInBounds_toArray, List.set_cons_succ, List.set_cons_zero]
              refine plan_read _ (hi_of HO rfl) (by rw [HO.out]; rfl) (fun w' hE => by have hcE := (Ext.trans _ _ _ (by (repeat (first | exact hx1.out | apply Ext.drew | apply Ext.alloc))) hE).hc; (first | replace hE := Ext.unD hE | skip); have hcF := hE.hc; clear hE; go_simp; rfl) ?_
              simp only [Act.put, List.setIfInBounds_toArray, List.set_cons_succ, List.set_cons_zero]
              refine plan_read _ (hi_of HO rfl) (by rw [HO.out]; rfl) (fun w' hE => by have hcE := (Ext.trans _ _ _ (by (repeat (first | exact hx1.out | apply Ext.drew | apply Ext.alloc))) hE).hc; (first | replace hE := Ext.unD hE | skip); have hcF := hE.hc; clear hE; go_simp; rfl) ?_
              simp only [Act.put, List.setIfInBounds_toArray, List.set_cons_succ, List.set_cons_zero]
              refine plan_read _ (hi_of HO rfl) (by rw [HO.out]; rfl) (fun w' hE => by have hcE := (Ext.trans _ _ _ (by (repeat (first | exact hx1.out | apply Ext.drew | apply Ext.alloc))) hE).hc; (first | replace hE := Ext.unD hE | skip); have hcF := hE.hc; clear hE; go_simp; rfl) ?_
              simp only [Act.put, List.setIfInBounds_toArray, List.set_cons_succ, List.set_cons_zero]
              refine plan_read _ (hi_of HO rfl) (by rw [HO.out]; rfl) (fun w' hE => by have hcE := (Ext.trans _ _ _ (by (repeat (first | exact hx1.out | apply Ext.drew | apply Ext.alloc))) hE).hc; (first | replace hE := Ext.unD hE | skip); have hcF := hE.hc; clear hE; go_simp; rfl) ?_
              simp only [Act.put, List.setIfInBounds_toArray, List.set_cons_succ, List.set_cons_zero]
              refine plan_read _ (hi_of HO rfl) (by rw [HO.out]; rfl) (fun w' hE => by have hcE := (Ext.trans _ _ _ (by (repeat (first | exact hx1.out | apply Ext.drew | apply Ext.alloc))) hE).hc; (first | replace hE := Ext.unD hE | skip); have hcF := hE.hc; clear hE; go_simp; rfl) ?_
              simp only [Act.put, List.setIfInBounds_toArray, List.set_cons_succ, List.set_cons_zero]
              refine plan_read _ (hi_of HO rfl) (by rw [HO.out]; rfl) (fun w' hE => by have hcE := (Ext.trans _ _ _ (by (repeat (first | exact hx1.out | apply Ext.drew | apply Ext.alloc))) hE).hc; (first | replace hE := Ext.unD hE | skip); have hcF := hE.hc; clear hE; go_simp; rfl) ?_
              simp only [Act.put, List.setIfInBounds_toArray, List.set_cons_succ, List.set_cons_zero]
              refine plan_read _ (hi_of HO rfl) (by rw [HO.out]; rfl) (fun w' hE => by have hcE := (Ext.trans _ _ _ (by (repeat (first | exact hx1.out | apply Ext.drew | apply Ext.alloc))) hE).hc; (first | replace hE := Ext.unD hE | skip); have hcF := hE.hc; clear hE; go_simp; rfl) ?_
              simp only [Act.put, List.setIfInBounds_toArray, List.set_cons_succ, List.set_cons_zero]
              refine plan_read _ (hi_of HO rfl) (by rw [HO.out]; rfl) (fun w' hE => by have hcE := (Ext.trans _ _ _ (by (repeat (first | exact hx1.out | apply Ext.drew | apply Ext.alloc))) hE).hc; (first | replace hE := Ext.unD hE | skip); have hcF := hE.hc; clear hE; go_simp; rfl) ?_
              simp only [Act.put, List.setIfInBounds_toArray, List.set_cons_succ, List.set_cons_zero]
              refine plan_boolc _ (hi_of HO rfl) (by rw [HO.out]; rfl) (fun w' hE => by have hcE := (Ext.trans _ _ _ (by (repeat (first | exact hx1.out | apply Ext.drew | apply Ext.alloc))) hE).hc; (first | replace hE := Ext.unD hE | skip); have hcF := hE.hc; clear hE; go_simp; rfl) (by rfl) ?hF111 ?hT111
              case' hF111 =>
                intro hb111
                simp only [Act.put, List.setIfInBounds_toArray, List.set_cons_succ, List.set_cons_zero]
                refine plan_read _ (hi_of HO rfl) (by rw [HO.out]; rfl) (fun w' hE => by have hcE := (Ext.trans _ _ _ (by (repeat (first | exact hx1.out | apply Ext.drew | apply Ext.alloc))) hE).hc; (first | replace hE := Ext.unD hE | skip); have hcF := hE.hc; clear hE; go_simp; rfl) ?_
                simp only [Act.put, List.setIfInBounds_toArray, List.set_cons_succ, List.set_cons_zero]
                refine plan_read _ (hi_of HO rfl) (by rw [HO.out]; rfl) (fun w' hE => by have hcE := (Ext.trans _ _ _ (by (repeat (first | exact hx1.out | apply Ext.drew | apply Ext.alloc))) hE).hc; (first | replace hE := Ext.unD hE | skip); have hcF := hE.hc; clear hE; go_simp; rfl) ?_
                simp only [Act.put, List.setIfInBounds_toArray, List.set_cons_succ, List.set_cons_zero]
                refine plan_read _ (hi_of HO rfl) (by rw [HO.out]; rfl) (fun w' hE => by have hcE := (Ext.trans _ _ _ (by (repeat (first | exact hx1.out | apply Ext.drew | apply Ext.alloc))) hE).hc; (first | replace hE := Ext.unD hE | skip); have hcF := hE.hc; clear hE; go_simp; rfl) ?_
                simp only [Act.put, List.setIfInBounds_toArray, List.set_cons_succ, List.set_cons_zero]
                refine plan_read _ (hi_of HO rfl) (by rw [HO.out]; rfl) (fun w' hE => by have hcE := (Ext.trans _ _ _ (by (repeat (first | exact hx1.out | apply Ext.drew | apply Ext.alloc))) hE).hc; (first | replace hE := Ext.unD hE | skip); have hcF := hE.hc; clear hE; go_simp; rfl) ?_
                simp only [Act.put, List.setIfInBounds_toArray, List.set_cons_succ, List.set_cons_zero]
                refine plan_read _ (hi_of HO rfl) (by rw [HO.out]; rfl) (fun w' hE => by have hcE := (Ext.trans _ _ _ (by (repeat (first | exact hx1.out | apply Ext.drew | apply Ext.alloc))) hE).hc; (first | replace hE := Ext.unD hE | skip); have hcF := hE.hc; clear hE; go_simp; rfl) ?_
                simp only [Act.put, List.setIfInBounds_toArray, List.set_cons_succ, List.set_cons_zero]
                refine plan_read _ (hi_of HO rfl) (by rw [HO.out]; rfl) (fun w' hE => by have hcE := (Ext.trans _ _ _ (by (repeat (first | exact hx1.out | apply Ext.drew | apply Ext.alloc))) hE).hc; (first | replace hE := Ext.unD hE | skip); have hcF := hE.hc; clear hE; go_simp; rfl) ?_
                simp only [Act.put, List.setIfInBounds_toArray, List.set_cons_succ, List.set_cons_zero]
                refine plan_read _ (hi_of HO rfl) (by rw [HO.out]; rfl) (fun w' hE => by have hcE := (Ext.trans _ _ _ (by (repeat (first | exact hx1.out | apply Ext.drew | apply Ext.alloc))) hE).hc; (first | replace hE := Ext.unD hE | skip); have hcF := hE.hc; clear hE; go_simp; rfl) ?_
                simp only [Act.put, List.setIfInBounds_toArray, List.set_cons_succ, List.set_cons_zero]
                refine plan_read _ (hi_of HO rfl) (by rw [HO.out]; rfl) (fun w' hE => by have hcE := (Ext.trans _ _ _ (by (repeat (first | exact hx1.out | apply Ext.drew | apply Ext.alloc))) hE).hc; (first | replace hE := Ext.unD hE | skip); have hcF := hE.hc; clear hE; go_simp; rfl) ?_
                simp only [Act.put, List.setIfInBounds_toArray, List.set_cons_succ, List.set_cons_zero]
                refine plan_read _ (hi_of HO rfl) (by rw [HO.out]; rfl) (fun w' hE => by have hcE := (Ext.trans _ _ _ (by (repeat (first | exact hx1.out | apply Ext.drew | apply Ext.alloc))) hE).hc; (first | replace hE := Ext.unD hE | skip); have hcF := hE.hc; clear hE; go_simp; rfl) ?_
                simp only [Act.put, List.setIfInBounds_toArray, List.set_cons_succ, List.set_cons_zero]
                refine plan_read _ (hi_of HO rfl) (by rw [HO.out]; rfl) (fun w' hE => by have hcE := (Ext.trans _ _ _ (by (repeat (first | exact hx1.out | apply Ext.drew | apply Ext.alloc))) hE).hc; (first | replace hE := Ext.unD hE | skip); have hcF := hE.hc; clear hE; go_simp; rfl) ?_
                simp only [Act.put, List.setIfInBounds_toArray, List.set_cons_succ, List.set_cons_zero]
                refine plan_read _ (hi_of HO rfl) (by rw [HO.out]; rfl) (fun w' hE => by have hcE := (Ext.trans _ _ _ (by (repeat (first | exact hx1.out | apply Ext.drew | apply Ext.alloc))) hE).hc; (first | replace hE := Ext.unD hE | skip); have hcF := hE.hc; clear hE; go_simp; rfl) ?_
                simp only [Act.put, List.setIfInBounds_toArray, List.set_cons_succ, List.set_cons_zero]
                refine plan_read _ (hi_of HO rfl) (by rw [HO.out]; rfl) (fun w' hE => by have hcE := (Ext.trans _ _ _ (by (repeat (first | exact hx1.out | apply Ext.drew | apply Ext.alloc))) hE).hc; (first | replace hE := Ext.unD hE | skip); have hcF := hE.hc; clear hE; go_simp; rfl) ?_
                simp only [Act.put, List.setIfInBounds_toArray, List.set_cons_succ, List.set_cons_zero]
                refine plan_read _ (hi_of HO rfl) (by rw [HO.out]; rfl) (fun w' hE => by have hcE := (Ext.trans _ _ _ (by (repeat (first | exact hx1.out | apply Ext.drew | apply Ext.alloc))) hE).hc; (first | replace hE := Ext.unD hE | skip); have hcF := hE.hc; clear hE; go_simp; rfl) ?_
                simp only [Act.put, List.setIfInBounds_toArray, List.set_cons_succ, List.set_cons_zero]
                refine plan_read _ (hi_of HO rfl) rfl (fun w' hE => by have hcE := (Ext.trans _ _ _ (by (repeat (first | exact hx1.out | apply Ext.drew | apply Ext.alloc))) hE).hc; (first | replace hE := Ext.unD hE | skip); have hcF := hE.hc; clear hE; go_simp; rfl) ?_
                simp only [Act.put, List.setIfInBounds_toArray, List.set_cons_succ, List.set_cons_zero]
                refine plan_done ?fin112
              case' hT111 =>
                intro hb111
                simp only [Act.put, List.setIfInBounds_toArray, List.set_cons_succ, List.set_cons_zero]
                refine plan_skip (hi_of HO rfl) (by rw [HO.out]; rfl) ?_
                simp only [Act.put, List.setIfInBounds_toArray, List.set_cons_succ, List.set_cons_zero]
                refine plan_skip (hi_of HO rfl) (by rw [HO.out]; rfl) ?_
                simp only [Act.put, List.setIfInBounds_toArray, List.set_cons_succ, List.set_cons_zero]
                refine plan_skip (hi_of HO rfl) (by rw [HO.out]; rfl) ?_
                simp only [Act.put, List.setIfInBounds_toArray, List.set_cons_succ, List.set_cons_zero]
                refine plan_skip (hi_of HO rfl) (by rw [HO.out]; rfl) ?_
                simp only [Act.put, List.setIfInBounds_toArray, List.set_cons_succ, List.set_cons_zero]
                refine plan_skip (hi_of HO rfl) (by rw [HO.out]; rfl) ?_
                simp only [Act.put, List.setIfInBounds_toArray, List.set_cons_succ, List.set_cons_zero]
                refine plan_skip (hi_of HO rfl) (by rw [HO.out]; rfl) ?_
                simp only [Act.put, List.setIfInBounds_toArray, List.set_cons_succ, List.set_cons_zero]
                refine plan_skip (hi_of HO rfl) (by rw [HO.out]; rfl) ?_
                simp only [Act.put, List.setIfInBounds_toArray, List.set_cons_succ, List.set_cons_zero]
                refine plan_skip (hi_of HO rfl) (by rw [HO.out]; rfl) ?_
                simp only [Act.put, List.setIfInBounds_toArray, List.set_cons_succ, List.set_cons_zero]
                refine plan_skip (hi_of HO rfl) (by rw [HO.out]; rfl) ?_
                simp only [Act.put, List.setIfInBounds_toArray, List.set_cons_succ, List.set_cons_zero]
                refine plan_skip (hi_of HO rfl) (by rw [HO.out]; rfl) ?_
                simp only [Act.put, List.setIfInBounds_toArray, List.set_cons_succ, List.set_cons_zero]
                refine plan_skip (hi_of HO rfl) (by rw [HO.out]; rfl) ?_
                simp only [Act.put, List.setIfInBounds_toArray, List.set_cons_succ, List.set_cons_zero]
                refine plan_read _ (hi_of HO rfl) (by rw [HO.out]; rfl) (fun w' hE => by have hcE := (Ext.trans _ _ _ (by (repeat (first | exact hx1.out | apply Ext.drew | apply Ext.alloc))) hE).hc; (first | replace hE := Ext.unD hE | skip); have hcF := hE.hc; clear hE; go_simp; rfl) ?_
                simp only [Act.put, List.setIfInBounds_toArray, List.set_cons_succ, List.set_cons_zero]
                refine plan_read _ (hi_of HO rfl) (by rw [HO.out]; rfl) (fun w' hE => by have hcE := (Ext.trans _ _ _ (by (repeat (first | exact hx1.out | apply Ext.drew | apply Ext.alloc))) hE).hc; (first | replace hE := Ext.unD hE | skip); have hcF := hE.hc; clear hE; go_simp; rfl) ?_
                simp only [Act.put, List.setIfInBounds_toArray, List.set_cons_succ, List.set_cons_zero]
                refine plan_read _ (hi_of HO rfl) rfl (fun w' hE => by have hcE := (Ext.trans _ _ _ (by (repeat (first | exact hx1.out | apply Ext.drew | apply Ext.alloc))) hE).hc; (first | replace hE := Ext.unD hE | skip); have hcF := hE.hc; clear hE; go_simp; rfl) ?_
                simp only [Act.put, List.setIfInBounds_toArray, List.set_cons_succ, List.set_cons_zero]
                refine plan_done ?fin113
            case' hT110 =>
              intro hb110
              simp only [Act.put, List.setIfInBounds_toArray, List.set_cons_succ, List.set_cons_zero]
              refine plan_skip (hi_of HO rfl) (by rw [HO.out]; rfl) ?_
              simp only [Act.put, List.setIfInBounds_toArray, List.set_cons_succ, List.set_cons_zero]
              refine plan_skip (hi_of HO rfl) (by rw [HO.out]; rfl) ?_
              simp only [Act.put, List.setIfInBounds_toArray, List.set_cons_succ, List.set_cons_zero]
              refine plan_skip (hi_of HO rfl) (by rw [HO.out]; rfl) ?_
              simp only [Act.put, List.setIfInBounds_toArray, List.set_cons_succ, List.set_cons_zero]
              refine plan_skip (hi_of HO rfl) (by rw [HO.out]; rfl) ?_
              simp only [Act.put, List.setIfInBounds_toArray, List.set_cons_succ, List.set_cons_zero]
              refine plan_skip (hi_of HO rfl) (by rw [HO.out]; rfl) ?_
              simp only [Act.put, List.setIfInBounds_toArray, List.set_cons_succ, List.set_cons_zero]
              refine plan_skip (hi_of HO rfl) (by rw [HO.out]; rfl) ?_
              simp only [Act.put, List.setIfInBounds_toArray, List.set_cons_succ, List.set_cons_zero]
              refine plan_skip (hi_of HO rfl) (by rw [HO.out]; rfl) ?_
              simp only [Act.put, List.setIfInBounds_toArray, List.set_cons_succ, List.set_cons_zero]
              refine plan_skip (hi_of HO rfl) (by rw [HO.out]; rfl) ?_
              simp only [Act.put, List.setIfInBounds_toArray, List.set_cons_succ, List.set_cons_zero]
              refine plan_skip (hi_of HO rfl) (by rw [HO.out]; rfl) ?_
              simp only [Act.put, List.setIfInBounds_toArray, List.set_cons_succ, List.set_cons_zero]
              refine plan_skip (hi_of HO rfl) (by rw [HO.out]; rfl) ?_
              simp only [Act.put, List.setIfInBounds_toArray, List.set_cons_succ, List.set_cons_zero]
              refine plan_skip (hi_of HO rfl) (by rw [HO.out]; rfl) ?_
              simp only [Act.put, List.setIfInBounds_toArray, List.set_cons_succ, List.set_cons_zero]
              refine plan_skip (hi_of HO rfl) (by rw [HO.out]; rfl) ?_
              simp only [Act.put, List.setIfInBounds_toArray, List.set_cons_succ, List.set_cons_zero]
              refine plan_skip (hi_of HO rfl) (by rw [HO.out]; rfl) ?_
              simp only [Act.put, List.setIfInBounds_toArray, List.set_cons_succ, List.set_cons_zero]
              refine plan_skip (hi_of HO rfl) (by rw [HO.out]; rfl) ?_
              simp only [Act.put, List.setIfInBounds_toArray, List.set_cons_succ, List.set_cons_zero]
              refine plan_skip (hi_of HO rfl) (by rw [HO.out]; rfl) ?_
              simp only [Act.put, List.setIfInBounds_toArray, List.set_cons_succ, List.set_cons_zero]
              refine plan_skip (hi_of HO rfl) (by rw [HO.out]; rfl) ?_
              simp only [Act.put, List.setIfInBounds_toArray, List.set_cons_succ, List.set_cons_zero]
              refine plan_skip (hi_of HO rfl) (by rw [HO.out]; rfl) ?_
              simp only [Act.put, List.setIfInBounds_toArray, List.set_cons_succ, List.set_cons_zero]
              refine plan_skip (hi_of HO rfl) (by rw [HO.out]; rfl) ?_
              simp only [Act.put, List.setIfInBounds_toArray, List.set_cons_succ, List.set_cons_zero]
              refine plan_skip (hi_of HO rfl) (by rw [HO.out]; rfl) ?_
              simp only [Act.put, List.setIfInBounds_toArray, List.set_cons_succ, List.set_cons_zero]
              refine plan_skip (hi_of HO rfl) (by rw [HO.out]; rfl) ?_
              simp only [Act.put, List.setIfInBounds_toArray, List.set_cons_succ, List.set_cons_zero]
              refine plan_skip (hi_of HO rfl) (by rw [HO.out]; rfl) ?_
              simp only [Act.put, List.setIfInBounds_toArray, List.set_cons_succ, List.set_cons_zero]
              refine plan_skip (hi_of HO rfl) (by rw [HO.out]; rfl) ?_
              simp only [Act.put, List.setIfInBounds_toArray, List.set_cons_succ, List.set_cons_zero]
              refine plan_skip (hi_of HO rfl) (by rw [HO.out]; rfl) ?_
              simp only [Act.put, List.setIfInBounds_toArray, List.set_cons_succ, List.set_cons_zero]
              refine plan_skip (hi_of HO rfl) (by rw [HO.out]; rfl) ?_
              simp only [Act.put, List.setIfInBounds_toArray, List.set_cons_succ, List.set_cons_zero]
              refine plan_read _ (hi_of HO rfl) rfl (fun w' hE => by have hcE := (Ext.trans _ _ _ (by (repeat (first | exact hx1.out | apply Ext.drew | apply Ext.alloc))) hE).hc; (first | replace hE := Ext.unD hE | skip); have hcF := hE.hc; clear hE; go_simp; rfl) ?_
              simp only [Act.put, List.setIfInBounds_toArray, List.set_cons_succ, List.set_cons_zero]
              refine plan_done ?fin114
          all_goals go_wp2
          all_goals first
            | (go_ret
               refine ⟨ret_int ?_, Ext.trans _ _ _ HX0.out (by (repeat (first | exact Ext.refl _ | apply Ext.drew_left | apply Ext.drew | apply Ext.alloc)))⟩
               rw [HQ.out, if_neg (by simp [HF.out]), if_neg (by simp [HZ.out])]
               clear hc1 hl1 he1 hn1
               first
                 | (rw [if_pos (by simp [tilesBad, hprev.out, *])]; done)
                 | (rw [if_neg (by simp [tilesBad, hprev.out, *]), if_neg (by simp), if_pos (by simp_all [tallyBad]; done)]; done)
                 | (rw [if_neg (by simp [tilesBad, hprev.out, *]), if_neg (by simp), if_pos (by simp_all [tallyBad]; omega)]; done)
                 | (rw [if_neg (by simp [tilesBad, hprev.out, *]), if_neg (by simp), if_neg (by simp_all [tallyBad]; done)]; done)
                 | (rw [if_neg (by simp [tilesBad, hprev.out, *]), if_neg (by simp), if_neg (by simp_all [tallyBad]; omega)]; done))
      · go_wp2
        go_ret
        refine ⟨ret_int ?_, Ext.trans _ _ _ ((Ext.refl _).alloc _) hx1.out⟩
        rw [HQ.out, if_neg (by simp [HF.out]), if_pos hz]
    · obtain ⟨rfl, rfl, rfl⟩ := hkind.2.2.2 h1
      have h1b : (kind == 1) = false := by simpa using h1
      have h2b : (kind != 1) = true := by simpa using h1
      have hk2 := hkind.1
      have hk3 := hkind.2.1
      clear hkind
      go_enter Try.func108, Try.ntmps108
      go_wp2_with fail
      refine (r2Check_any _ _ _ _).mono ?_
      rintro e w1 ⟨rfl, hx1⟩
      have hloc0 : w1.cell? ⟨w.heap.size, 0, none⟩ = some (.int .i64 kind) := cell_ext hx1 (by go_simp)
      have hsz := cell_lt hloc0
      have HX0 := hid_mk (show Ext w w1 from Ext.trans _ _ _ ((Ext.refl _).alloc _) hx1)
      clear hloc0
      have hc1 := hx1.hc; have hl1 := hx1.hl; have he1 := hx1.hle; have hn1 := hx1.hne; replace hx1 := hid_mk hx1
      by_cases hz : rngCheck lo hi op = 0
      · have HZ := hid_mk hz
        rw [hz]
        clear hz
        rcases k with _ | m
        · have hnil := hid_mk (show prevPrt l 0 = none from rfl)
          go_wp2_with fail
          refine wp_region_held_below (fun _ => true) (.quiet 0 (.quiet 1 (.quiet 2 (.quiet 3 (.quiet 4 (.quiet 5 (.quiet 6 (.quiet 7 (.quiet 8 (.quiet 9 (.quiet 10 (.quiet 11 (.quiet 12 (.quiet 13 (.quiet 14 (.quiet 15 (.quiet 16 (.quiet 17 (.quiet 18 (.quiet 19 (.quiet 20 (.quiet 21 (.quiet 22 (.quiet 23 (.quiet 24 (.quiet 25 (.quiet 26 (.quiet 27 (.quiet 28 (.quiet 29 (.quiet 30 (.quiet 31 (.quiet 32 (.quiet 33 (.quiet 34 (.quiet 35 (.quiet 36 (.quiet 37 (.quiet 38 .done))))))))))))))))))))))))))))))))))))))) (by kernel_rfl) (by kernel_rfl) (by intro c a w d v h; cases d <;> exact h) (fun ops HO => ?_)
          refine plan_read _ (hi_of HO rfl) rfl (fun w' hE => by have hcE := (Ext.trans _ _ _ (by (repeat (first | exact hx1.out | apply Ext.drew | apply Ext.alloc))) hE).hc; (first | replace hE := Ext.unD hE | skip); have hcF := hE.hc; clear hE; go_simp; rfl) ?_
          simp only [Act.put, List.setIfInBounds_toArray, List.set_cons_succ, List.set_cons_zero]
          refine plan_read _ (hi_of HO rfl) rfl (fun w' hE => by have hcE := (Ext.trans _ _ _ (by (repeat (first | exact hx1.out | apply Ext.drew | apply Ext.alloc))) hE).hc; (first | replace hE := Ext.unD hE | skip); have hcF := hE.hc; clear hE; go_simp; rfl) ?_
          simp only [Act.put, List.setIfInBounds_toArray, List.set_cons_succ, List.set_cons_zero]
          refine plan_read _ (hi_of HO rfl) rfl (fun w' hE => by have hcE := (Ext.trans _ _ _ (by (repeat (first | exact hx1.out | apply Ext.drew | apply Ext.alloc))) hE).hc; (first | replace hE := Ext.unD hE | skip); have hcF := hE.hc; clear hE; go_simp; rfl) ?_
          simp only [Act.put, List.setIfInBounds_toArray, List.set_cons_succ, List.set_cons_zero]
          refine plan_read _ (hi_of HO rfl) rfl (fun w' hE => by have hcE := (Ext.trans _ _ _ (by (repeat (first | exact hx1.out | apply Ext.drew | apply Ext.alloc))) hE).hc; (first | replace hE := Ext.unD hE | skip); have hcF := hE.hc; clear hE; go_simp; rfl) ?_
          simp only [Act.put, List.setIfInBounds_toArray, List.set_cons_succ, List.set_cons_zero]
          refine plan_boolc _ (hi_of HO rfl) rfl (fun w' hE => by have hcE := (Ext.trans _ _ _ (by (repeat (first | exact hx1.out | apply Ext.drew | apply Ext.alloc))) hE).hc; (first | replace hE := Ext.unD hE | skip); have hcF := hE.hc; clear hE; go_simp; rfl) (by rfl) ?hF115 ?hT115
          case' hF115 =>
            intro hb115
            simp only [Act.put, List.setIfInBounds_toArray, List.set_cons_succ, List.set_cons_zero]
            refine plan_skip (hi_of HO rfl) (by rw [HO.out]; rfl) ?_
            simp only [Act.put, List.setIfInBounds_toArray, List.set_cons_succ, List.set_cons_zero]
            refine plan_skip (hi_of HO rfl) (by rw [HO.out]; rfl) ?_
            simp only [Act.put, List.setIfInBounds_toArray, List.set_cons_succ, List.set_cons_zero]
            refine plan_skip (hi_of HO rfl) (by rw [HO.out]; rfl) ?_
            simp only [Act.put, List.setIfInBounds_toArray, List.set_cons_succ, List.set_cons_zero]
            refine plan_skip (hi_of HO rfl) (by rw [HO.out]; rfl) ?_
            simp only [Act.put, List.setIfInBounds_toArray, List.set_cons_succ, List.set_cons_zero]
            refine plan_skip (hi_of HO rfl) (by rw [HO.out]; rfl) ?_
            simp only [Act.put, List.setIfInBounds_toArray, List.set_cons_succ, List.set_cons_zero]
            refine plan_skip (hi_of HO rfl) (by rw [HO.out]; rfl) ?_
            simp only [Act.put, List.setIfInBounds_toArray, List.set_cons_succ, List.set_cons_zero]
            refine plan_skip (hi_of HO rfl) (by rw [HO.out]; rfl) ?_
            simp only [Act.put, List.setIfInBounds_toArray, List.set_cons_succ, List.set_cons_zero]
            refine plan_read _ (hi_of HO rfl) rfl (fun w' hE => by have hcE := (Ext.trans _ _ _ (by (repeat (first | exact hx1.out | apply Ext.drew | apply Ext.alloc))) hE).hc; (first | replace hE := Ext.unD hE | skip); have hcF := hE.hc; clear hE; go_simp; rfl) ?_
            simp only [Act.put, List.setIfInBounds_toArray, List.set_cons_succ, List.set_cons_zero]
            refine plan_read _ (hi_of HO rfl) rfl (fun w' hE => by have hcE := (Ext.trans _ _ _ (by (repeat (first | exact hx1.out | apply Ext.drew | apply Ext.alloc))) hE).hc; (first | replace hE := Ext.unD hE | skip); have hcF := hE.hc; clear hE; go_simp; rfl) ?_
            simp only [Act.put, List.setIfInBounds_toArray, List.set_cons_succ, List.set_cons_zero]
            refine plan_read _ (hi_of HO rfl) (by rw [HO.out]; rfl) (fun w' hE => by have hcE := (Ext.trans _ _ _ (by (repeat (first | exact hx1.out | apply Ext.drew | apply Ext.alloc))) hE).hc; (first | replace hE := Ext.unD hE | skip); have hcF := hE.hc; clear hE; go_simp; rfl) ?_
            simp only [Act.put, List.setIfInBounds_toArray, List.set_cons_succ, List.set_cons_zero]
            refine plan_read _ (hi_of HO rfl) (by rw [HO.out]; rfl) (fun w' hE => by have hcE := (Ext.trans _ _ _ (by (repeat (first | exact hx1.out | apply Ext.drew | apply Ext.alloc))) hE).hc; (first | replace hE := Ext.unD hE | skip); have hcF := hE.hc; clear hE; go_simp; rfl) ?_
            simp only [Act.put, List.setIfInBounds_toArray, List.set_cons_succ, List.set_cons_zero]
            refine plan_read _ (hi_of HO rfl) (by rw [HO.out]; rfl) (fun w' hE => by have hcE := (Ext.trans _ _ _ (by (repeat (first | exact hx1.out | apply Ext.drew | apply Ext.alloc))) hE).hc; (first | replace hE := Ext.unD hE | skip); have hcF := hE.hc; clear hE; go_simp; rfl) ?_
            simp only [Act.put, List.setIfInBounds_toArray, List.set_cons_succ, List.set_cons_zero]
            refine plan_skip (hi_of HO rfl) (by rw [HO.out]; rfl) ?_
            simp only [Act.put, List.setIfInBounds_toArray, List.set_cons_succ, List.set_cons_zero]
            refine plan_skip (hi_of HO rfl) (by rw [HO.out]; rfl) ?_
            simp only [Act.put, List.setIfInBounds_toArray, List.set_cons_succ, List.set_cons_zero]
            refine plan_skip (hi_of HO rfl) (by rw [HO.out]; rfl) ?_
            simp only [Act.put, List.setIfInBounds_toArray, List.set_cons_succ, List.set_cons_zero]
            refine plan_skip (hi_of HO rfl) (by rw [HO.out]; rfl) ?_
            simp only [Act.put, List.setIfInBounds_toArray, List.set_cons_succ, List.set_cons_zero]
            refine plan_skip (hi_of HO rfl) (by rw [HO.out]; rfl) ?_
            simp only [Act.put, List.setIfInBounds_toArray, List.set_cons_succ, List.set_cons_zero]
            refine plan_skip (hi_of HO rfl) (by rw [HO.out]; rfl) ?_
            simp only [Act.put, List.setIfInBounds_toArray, List.set_cons_succ, List.set_cons_zero]
            refine plan_skip (hi_of HO rfl) (by rw [HO.out]; rfl) ?_
            simp only [Act.put, List.setIfInBounds_toArray, List.set_cons_succ, List.set_cons_zero]
            refine plan_skip (hi_of HO rfl) (by rw [HO.out]; rfl) ?_
            simp only [Act.put, List.setIfInBounds_toArray, List.set_cons_succ, List.set_cons_zero]
            refine plan_skip (hi_of HO rfl) (by rw [HO.out]; rfl) ?_
            simp only [Act.put, List.setIfInBounds_toArray, List.set_cons_succ, List.set_cons_zero]
            refine plan_skip (hi_of HO rfl) (by rw [HO.out]; rfl) ?_
            simp only [Act.put, List.setIfInBounds_toArray, List.set_cons_succ, List.set_cons_zero]
            refine plan_skip (hi_of HO rfl) (by rw [HO.out]; rfl) ?_
            simp only [Act.put, List.setIfInBounds_toArray, List.set_cons_succ, List.set_cons_zero]
            refine plan_skip (hi_of HO rfl) (by rw [HO.out]; rfl) ?_
            simp only [Act.put, List.setIfInBounds_toArray, List.set_cons_succ, List.set_cons_zero]
            refine plan_skip (hi_of HO rfl) (by rw [HO.out]; rfl) ?_
            simp only [Act.put, List.setIfInBounds_toArray, List.set_cons_succ, List.set_cons_zero]
            refine plan_skip (hi_of HO rfl) (by rw [HO.out]; rfl) ?_
            simp only [Act.put, List.setIfInBounds_toArray, List.set_cons_succ, List.set_cons_zero]
            refine plan_skip (hi_of HO rfl) (by rw [HO.out]; rfl) ?_
            simp only [Act.put, List.setIfInBounds_toArray, List.set_cons_succ, List.set_cons_zero]
            refine plan_skip (hi_of HO rfl) (by rw [HO.out]; rfl) ?_
            simp only [Act.put, List.setIfInBounds_toArray, List.set_cons_succ, List.set_cons_zero]
            refine plan_skip (hi_of HO rfl) (by rw [HO.out]; rfl) ?_
            simp only [Act.put, List.setIfInBounds_toArray, List.set_cons_succ, List.set_cons_zero]
            refine plan_skip (hi_of HO rfl) (by rw [HO.out]; rfl) ?_
            simp only [Act.put, List.setIfInBounds_toArray, List.set_cons_succ, List.set_cons_zero]
            refine plan_skip (hi_of HO rfl) (by rw [HO.out]; rfl) ?_
            simp only [Act.put, List.setIfInBounds_toArray, List.set_cons_succ, List.set_cons_zero]
            refine plan_skip (hi_of HO rfl) (by rw [HO.out]; rfl) ?_
            simp only [Act.put, List.setIfInBounds_toArray, List.set_cons_succ, List.set_cons_zero]
            refine plan_read _ (hi_of HO rfl) (by rw [HO.out]; rfl) (fun w' hE => by have hcE := (Ext.trans _ _ _ (by (repeat (first | exact hx1.out | apply Ext.drew | apply Ext.alloc))) hE).hc; (first | replace hE := Ext.unD hE | skip); have hcF := hE.hc; clear hE; go_simp; rfl) ?_
            simp only [Act.put, List.setIfInBounds_toArray, List.set_cons_succ, List.set_cons_zero]
            refine plan_read _ (hi_of HO rfl) rfl (fun w' hE => by have hcE := (Ext.trans _ _ _ (by (repeat (first | exact hx1.out | apply Ext.drew | apply Ext.alloc))) hE).hc; (first | replace hE := Ext.unD hE | skip); have hcF := hE.hc; clear hE; go_simp; rfl) ?_
            simp only [Act.put, List.setIfInBounds_toArray, List.set_cons_succ, List.set_cons_zero]
            refine plan_done ?fin116
          case' hT115 =>
            intro hb115
            simp only [Act.put, List.setIfInBounds_toArray, List.set_cons_succ, List.set_cons_zero]
            refine plan_read _ (hi_of HO rfl) (by rw [HO.out]; rfl) (fun w' hE => by have hcE := (Ext.trans _ _ _ (by (repeat (first | exact hx1.out | apply Ext.drew | apply Ext.alloc))) hE).hc; (first | replace hE := Ext.unD hE | skip); have hcF := hE.hc; clear hE; go_simp; rfl) ?_
            simp only [Act.put, List.setIfInBounds_toArray, List.set_cons_succ, List.set_cons_zero]
            refine plan_read _ (hi_of HO rfl) (by rw [HO.out]; rfl) (fun w' hE => by have hcE := (Ext.trans _ _ _ (by (repeat (first | exact hx1.out | apply Ext.drew | apply Ext.alloc))) hE).hc; (first | replace hE := Ext.unD hE | skip); have hcF := hE.hc; clear hE; go_simp; rfl) ?_
            simp only [Act.put, List.setIfInBounds_toArray, List.set_cons_succ, List.set_cons_zero]
            refine plan_read _ (hi_of HO rfl) (by rw [HO.out]; rfl) (fun w' hE => by have hcE := (Ext.trans _ _ _ (by (repeat (first | exact hx1.out | apply Ext.drew | apply Ext.alloc))) hE).hc; (first | replace hE := Ext.unD hE | skip); have hcF := hE.hc; clear hE; go_simp; rfl) ?_
            simp only [Act.put, List.setIfInBounds_toArray, List.set_cons_succ, List.set_cons_zero]
            refine plan_read _ (hi_of HO rfl) (by rw [HO.out]; rfl) (fun w' hE => by have hcE := (Ext.trans _ _ _ (by (repeat (first | exact hx1.out | apply Ext.drew | apply Ext.alloc))) hE).hc; (first | replace hE := Ext.unD hE | skip); have hcF := hE.hc; clear hE; go_simp; rfl) ?_
            simp only [Act.put, List.setIfInBounds_toArray, List.set_cons_succ, List.set_cons_zero]
            refine plan_read _ (hi_of HO rfl) (by rw [HO.out]; rfl) (fun w' hE => by have hcE := (Ext.trans _ _ _ (by (repeat (first | exact hx1.out | apply Ext.drew | apply Ext.alloc))) hE).hc; (first | replace hE := Ext.unD hE | skip); have hcF := hE.hc; clear hE; go_simp; rfl) ?_
            simp only [Act.put, List.setIfInBounds_toArray, List.set_cons_succ, List.set_cons_zero]
            refine plan_read _ (hi_of HO rfl) (by rw [HO.out]; rfl) (fun w' hE => by have hcE := (Ext.trans _ _ _ (by (repeat (first | exact hx1.out | apply Ext.drew | apply Ext.alloc))) hE).hc; (first | replace hE := Ext.unD hE | skip); have hcF := hE.hc; clear hE; go_simp; rfl) ?_
            simp only [Act.put, List.setIfInBounds_toArray, List.set_cons_succ, List.set_cons_zero]
            refine plan_read _ (hi_of HO rfl) (by rw [HO.out]; rfl) (fun w' hE => by have hcE := (Ext.trans _ _ _ (by (repeat (first | exact hx1.out | apply Ext.drew | apply Ext.alloc))) hE).hc; (first | replace hE := Ext.unD hE | skip); have hcF := hE.hc; clear hE; go_simp; rfl) ?_
            simp only [Act.put, List.setIfInBounds_toArray, List.set_cons_succ, List.set_cons_zero]
            refine plan_read _ (hi_of HO rfl) rfl (fun w' hE => by have hcE := (Ext.trans _ _ _ (by (repeat (first | exact hx1.out | apply Ext.drew | apply Ext.alloc))) hE).hc; (first | replace hE := Ext.unD hE | skip); have hcF := hE.hc; clear hE; go_simp; rfl) ?_
            simp only [Act.put, List.setIfInBounds_toArray, List.set_cons_succ, List.set_cons_zero]
            refine plan_boolc _ (hi_of HO rfl) rfl (fun w' hE => by have hcE := (Ext.trans _ _ _ (by (repeat (first | exact hx1.out | apply Ext.drew | apply Ext.alloc))) hE).hc; (first | replace hE := Ext.unD hE | skip); have hcF := hE.hc; clear hE; go_simp; rfl) (by rfl) ?hF117 ?hT117
            case' hF117 =>
              intro hb117
              simp only [Act.put, List.setIfInBounds_toArray, List.set_cons_succ, List.set_cons_zero]
              refine plan_read _ (hi_of HO rfl) (by rw [HO.out]; rfl) (fun w' hE => by have hcE := (Ext.trans _ _ _ (by (repeat (first | exact hx1.out | apply Ext.drew | apply Ext.alloc))) hE).hc; (first | replace hE := Ext.unD hE | skip); have hcF := hE.hc; clear hE; go_simp; rfl) ?_
              simp only [Act.put, List.setIfInBounds_toArray, List.set_cons_succ, List.set_cons_zero]
              refine plan_read _ (hi_of HO rfl) (by rw [HO.out]; rfl) (fun w' hE => by have hcE := (Ext.trans _ _ _ (by (repeat (first | exact hx1.out | apply Ext.drew | apply Ext.alloc))) hE).hc; (first | replace hE := Ext.unD hE | skip); have hcF := hE.hc; clear hE; go_simp; rfl) ?_
              simp only [Act.put, List.setIfInBounds_toArray, List.set_cons_succ, List.set_cons_zero]
              refine plan_read _ (hi_of HO rfl) (by rw [HO.out]; rfl) (fun w' hE => by have hcE := (Ext.trans _ _ _ (by (repeat (first | exact hx1.out | apply Ext.drew | apply Ext.alloc))) hE).hc; (first | replace hE := Ext.unD hE | skip); have hcF := hE.hc; clear hE; go_simp; rfl) ?_
              simp only [Act.put, List.setIfInBounds_toArray, List.set_cons_succ, List.set_cons_zero]
              refine plan_skip (hi_of HO rfl) (by rw [HO.out]; rfl) ?_
              simp only [Act.put, List.setIfInBounds_toArray, List.set_cons_succ, List.set_cons_zero]
              refine plan_skip (hi_of HO rfl) (by rw [HO.out]; rfl) ?_
              simp only [Act.put, List.setIfInBounds_toArray, List.set_cons_succ, List.set_cons_zero]
              refine plan_skip (hi_of HO rfl) (by rw [HO.out]; rfl) ?_
              simp only [Act.put, List.setIfInBounds_toArray, List.set_cons_succ, List.set_cons_zero]
              refine plan_skip (hi_of HO rfl) (by rw [HO.out]; rfl) ?_
              simp only [Act.put, List.setIfInBounds_toArray, List.set_cons_succ, List.set_cons_zero]
              refine plan_skip (hi_of HO rfl) (by rw [HO.out]; rfl) ?_
              simp only [Act.put, List.setIfInBounds_toArray, List.set_cons_succ, List.set_cons_zero]
              refine plan_skip (hi_of HO rfl) (by rw [HO.out]; rfl) ?_
              simp only [Act.put, List.setIfInBounds_toArray, List.set_cons_succ, List.set_cons_zero]
              refine plan_skip (hi_of HO rfl) (by rw [HO.out]; rfl) ?_
              simp only [Act.put, List.setIfInBounds_toArray, List.set_cons_succ, List.set_cons_zero]
              refine plan_skip (hi_of HO rfl) (by rw [HO.out]; rfl) ?_
              simp only [Act.put, List.setIfInBounds_toArray, List.set_cons_succ, List.set_cons_zero]
              refine plan_skip (hi_of HO rfl) (by rw [HO.out]; rfl) ?_
              simp only [Act.put, List.setIfInBounds_toArray, List.set_cons_succ, List.set_cons_zero]
              refine plan_skip (hi_of HO rfl) (by rw [HO.out]; rfl) ?_
              simp only [Act.put, List.setIfInBounds_toArray, List.set_cons_succ, List.set_cons_zero]
              refine plan_skip (hi_of HO rfl) (by rw [HO.out]; rfl) ?_
              simp only [Act.put, List.setIfInBounds_toArray, List.set_cons_succ, List.set_cons_zero]
              refine plan_skip (hi_of HO rfl) (by rw [HO.out]; rfl) ?_
              simp only [Act.put, List.setIfInBounds_toArray, List.set_cons_succ, List.set_cons_zero]
              refine plan_skip (hi_of HO rfl) (by rw [HO.out]; rfl) ?_
              simp only [Act.put, List.setIfInBounds_toArray, List.set_cons_succ, List.set_cons_zero]
              refine plan_skip (hi_of HO rfl) (by rw [HO.out]; rfl) ?_
              simp only [Act.put, List.setIfInBounds_toArray, List.set_cons_succ, List.set_cons_zero]
              refine plan_skip (hi_of HO rfl) (by rw [HO.out]; rfl) ?_
              simp only [Act.put, List.setIfInBounds_toArray, List.set_cons_succ, List.set_cons_zero]
              refine plan_skip (hi_of HO rfl) (by rw [HO.out]; rfl) ?_
              simp only [Act.put, List.setIfInBounds_toArray, List.set_cons_succ, List.set_cons_zero]
              refine plan_skip (hi_of HO rfl) (by rw [HO.out]; rfl) ?_
              simp only [Act.put, List.setIfInBounds_toArray, List.set_cons_succ, List.set_cons_zero]
              refine plan_skip (hi_of HO rfl) (by rw [HO.out]; rfl) ?_
              simp only [Act.put, List.setIfInBounds_toArray, List.set_cons_succ, List.set_cons_zero]
              refine plan_skip (hi_of HO rfl) (by rw [HO.out]; rfl) ?_
              simp only [Act.put, List.setIfInBounds_toArray, List.set_cons_succ, List.set_cons_zero]
              refine plan_skip (hi_of HO rfl) (by rw [HO.out]; rfl) ?_
              simp only [Act.put, List.setIfInBounds_toArray, List.set_cons_succ, List.set_cons_zero]
              refine plan_read _ (hi_of HO rfl) (by rw [HO.out]; rfl) (fun w' hE => by have hcE := (Ext.trans _ _ _ (by (repeat (first | exact hx1.out | apply Ext.drew | apply Ext.alloc))) hE).hc; (first | replace hE := Ext.unD hE | skip); have hcF := hE.hc; clear hE; go_simp; rfl) ?_
              simp only [Act.put, List.setIfInBounds_toArray, List.set_cons_succ, List.set_cons_zero]
              refine plan_read _ (hi_of HO rfl) rfl (fun w' hE => by have hcE := (Ext.trans _ _ _ (by (repeat (first | exact hx1.out | apply Ext.drew | apply Ext.alloc))) hE).hc; (first | replace hE := Ext.unD hE | skip); have hcF := hE.hc; clear hE; go_simp; rfl) ?_
              simp only [Act.put, List.setIfInBounds_toArray, List.set_cons_succ, List.set_cons_zero]
              refine plan_done ?fin118
            case' hT117 =>
              intro hb117
              simp only [Act.put, List.setIfInBounds_toArray, List.set_cons_succ, List.set_cons_zero]
              refine plan_skip (hi_of HO rfl) (by rw [HO.out]; rfl) ?_
              simp only [Act.put, List.setIfInBounds_toArray, List.set_cons_succ, List.set_cons_zero]
              refine plan_skip (hi_of HO rfl) (by rw [HO.out]; rfl) ?_
              simp only [Act.put, List.setIfInBounds_toArray, List.set_cons_succ, List.set_cons_zero]
              refine plan_skip (hi_of HO rfl) (by rw [HO.out]; rfl) ?_
              simp only [Act.put, List.setIfInBounds_toArray, List.set_cons_succ, List.set_cons_zero]
              refine plan_skip (hi_of HO rfl) (by rw [HO.out]; rfl) ?_
              simp only [Act.put, List.setIfInBounds_toArray, List.set_cons_succ, List.set_cons_zero]
              refine plan_skip (hi_of HO rfl) (by rw [HO.out]; rfl) ?_
              simp only [Act.put, List.setIfInBounds_toArray, List.set_cons_succ, List.set_cons_zero]
              refine plan_skip (hi_of HO rfl) (by rw [HO.out]; rfl) ?_
              simp only [Act.put, List.setIfInBounds_toArray, List.set_cons_succ, List.set_cons_zero]
              refine plan_skip (hi_of HO rfl) (by rw [HO.out]; rfl) ?_
              simp only [Act.put, List.setIfInBounds_toArray, List.set_cons_succ, List.set_cons_zero]
              refine plan_skip (hi_of HO rfl) (by rw [HO.out]; rfl) ?_
              simp only [Act.put, List.setIfInBounds_toArray, List.set_cons_succ, List.set_cons_zero]
              refine plan_skip (hi_of HO rfl) (by rw [HO.out]; rfl) ?_
              simp only [Act.put, List.setIfInBounds_toArray, List.set_cons_succ, List.set_cons_zero]
              refine plan_skip (hi_of HO rfl) (by rw [HO.out]; rfl) ?_
              simp only [Act.put, List.setIfInBounds_toArray, List.set_cons_succ, List.set_cons_zero]
              refine plan_skip (hi_of HO rfl) (by rw [HO.out]; rfl) ?_
              simp only [Act.put, List.setIfInBounds_toArray, List.set_cons_succ, List.set_cons_zero]
              refine plan_skip (hi_of HO rfl) (by rw [HO.out]; rfl) ?_
              simp only [Act.put, List.setIfInBounds_toArray, List.set_cons_succ, List.set_cons_zero]
              refine plan_skip (hi_of HO rfl) (by rw [HO.out]; rfl) ?_
              simp only [Act.put, List.setIfInBounds_toArray, List.set_cons_succ, List.set_cons_zero]
              refine plan_skip (hi_of HO rfl) (by rw [HO.out]; rfl) ?_
              simp only [Act.put, List.setIfInBounds_toArray, List.set_cons_succ, List.set_cons_zero]
              refine plan_skip (hi_of HO rfl) (by rw [HO.out]; rfl) ?_
              simp only [Act.put, List.setIfInBounds_toArray, List.set_cons_succ, List.set_cons_zero]
              refine plan_skip (hi_of HO rfl) (by rw [HO.out]; rfl) ?_
              simp only [Act.put, List.setIfInBounds_toArray, List.set_cons_succ, List.set_cons_zero]
              refine plan_skip (hi_of HO rfl) (by rw [HO.out]; rfl) ?_
              simp only [Act.put, List.setIfInBounds_toArray, List.set_cons_succ, List.set_cons_zero]
              refine plan_skip (hi_of HO rfl) (by rw [HO.out]; rfl) ?_
              simp only [Act.put, List.setIfInBounds_toArray, List.set_cons_succ, List.set_cons_zero]
              refine plan_skip (hi_of HO rfl) (by rw [HO.out]; rfl) ?_
              simp only [Act.put, List.setIfInBounds_toArray, List.set_cons_succ, List.set_cons_zero]
              refine plan_skip (hi_of HO rfl) (by rw [HO.out]; rfl) ?_
              simp only [Act.put, List.setIfInBounds_toArray, List.set_cons_succ, List.set_cons_zero]
              refine plan_skip (hi_of HO rfl) (by rw [HO.out]; rfl) ?_
              simp only [Act.put, List.setIfInBounds_toArray, List.set_cons_succ, List.set_cons_zero]
              refine plan_skip (hi_of HO rfl) (by rw [HO.out]; rfl) ?_
              simp only [Act.put, List.setIfInBounds_toArray, List.set_cons_succ, List.set_cons_zero]
              refine plan_skip (hi_of HO rfl) (by rw [HO.out]; rfl) ?_
              simp only [Act.put, List.setIfInBounds_toArray, List.set_cons_succ, List.set_cons_zero]
              refine plan_skip (hi_of HO rfl) (by rw [HO.out]; rfl) ?_
              simp only [Act.put, List.setIfInBounds_toArray, List.set_cons_succ, List.set_cons_zero]
              refine plan_read _ (hi_of HO rfl) rfl (fun w' hE => by have hcE := (Ext.trans _ _ _ (by (repeat (first | exact hx1.out | apply Ext.drew | apply Ext.alloc))) hE).hc; (first | replace hE := Ext.unD hE | skip); have hcF := hE.hc; clear hE; go_simp; rfl) ?_
              simp only [Act.put, List.setIfInBounds_toArray, List.set_cons_succ, List.set_cons_zero]
              refine plan_done ?fin119
          all_goals (go_wp2_with (first | (go_at_call 123; refine (ritems_any _ _ _ _ _ _ _ _ _ _ (EntSl.ext HE.out (Ext.trans _ _ _ HX0.out (Ext.drew (Ext.refl _))))).mono ?_; rintro e w3 ⟨rfl, hx3⟩; replace hx3 := hid_mk hx3)))
          all_goals first
            | (go_ret
               refine ⟨ret_int ?_, Ext.trans _ _ _ HX0.out (by (repeat (first | exact Ext.refl _ | apply Ext.drew_left | apply Ext.drew | apply Ext.alloc)))⟩
               rw [HQ.out, if_neg (by simp [HF.out]), if_neg (by simp [HZ.out])]
               clear hc1 hl1 he1 hn1
               rw [if_pos (by simp [tilesBad, hnil.out, *])]; done)
            | (go_ret
               refine ⟨ret_int ?_, Ext.trans _ _ _ HX0.out (Ext.trans _ _ _ (Ext.drew (Ext.refl _)) (by assumption : Hid _).out)⟩
               rw [HQ.out, if_neg (by simp [HF.out]), if_neg (by simp [HZ.out])]
               clear hc1 hl1 he1 hn1
               rw [if_neg (by simp [tilesBad, hnil.out, *]), if_pos h1]; done)
        · obtain ⟨qv, hB⟩ := HL.out m (by omega)
          replace hB := hB.ext HX0.out
          have hb2 := hB.c2
          have hb3 := hB.c3
          have hbB := cell_lt hb2
          clear hB
          have hlt1 : (m : Int) + 1 < (l.length : Int) := by omega
          have hlt2 : (0 : Int) ≤ (m : Int) + 1 := by omega
          have hlt3 : (m : Int) < (l.length : Int) := by omega
          have hlt4 : IntKind.i64.wrap (m : Int) = m := wrapN m (by have := hlc'.out; omega)
          have hprev := hid_mk (show prevPrt l (m + 1) = some l[m] by simp [prevPrt, show m < l.length by omega])
          generalize l[m] = q at *
          go_wp2_with fail
          refine wp_region_held_below (fun _ => true) (.quiet 0 (.quiet 1 (.quiet 2 (.quiet 3 (.quiet 4 (.quiet 5 (.quiet 6 (.quiet 7 (.quiet 8 (.quiet 9 (.quiet 10 (.quiet 11 (.quiet 12 (.quiet 13 (.quiet 14 (.quiet 15 (.quiet 16 (.quiet 17 (.quiet 18 (.quiet 19 (.quiet 20 (.quiet 21 (.quiet 22 (.quiet 23 (.quiet 24 (.quiet 25 (.quiet 26 (.quiet 27 (.quiet 28 (.quiet 29 (.quiet 30 (.quiet 31 (.quiet 32 (.quiet 33 (.quiet 34 (.quiet 35 (.quiet 36 (.quiet 37 (.quiet 38 .done))))))))))))))))))))))))))))))))))))))) (by kernel_rfl) (by kernel_rfl) (by intro c a w d v h; cases d <;> exact h) (fun ops HO => ?_)
          refine plan_read _ (hi_of HO rfl) rfl (fun w' hE => by have hcE := (Ext.trans _ _ _ (by (repeat (first | exact hx1.out | apply Ext.drew | apply Ext.alloc))) hE).hc; (first | replace hE := Ext.unD hE | skip); have hcF := hE.hc; clear hE; go_simp; rfl) ?_
          simp only [Act.put, List.setIfInBounds_toArray, List.set_cons_succ, List.set_cons_zero]
          refine plan_read _ (hi_of HO rfl) rfl (fun w' hE => by have hcE := (Ext.trans _ _ _ (by (repeat (first | exact hx1.out | apply Ext.drew | apply Ext.alloc))) hE).hc; (first | replace hE := Ext.unD hE | skip); have hcF := hE.hc; clear hE; go_simp; rfl) ?_
          simp only [Act.put, List.setIfInBounds_toArray, List.set_cons_succ, List.set_cons_zero]
          refine plan_read _ (hi_of HO rfl) rfl (fun w' hE => by have hcE := (Ext.trans _ _ _ (by (repeat (first | exact hx1.out | apply Ext.drew | apply Ext.alloc))) hE).hc; (first | replace hE := Ext.unD hE | skip); have hcF := hE.hc; clear hE; go_simp; rfl) ?_
          simp only [Act.put, List.setIfInBounds_toArray, List.set_cons_succ, List.set_cons_zero]
          refine plan_read _ (hi_of HO rfl) rfl (fun w' hE => by have hcE := (Ext.trans _ _ _ (by (repeat (first | exact hx1.out | apply Ext.drew | apply Ext.alloc))) hE).hc; (first | replace hE := Ext.unD hE | skip); have hcF := hE.hc; clear hE; go_simp; rfl) ?_
          simp only [Act.put, List.setIfInBounds_toArray, List.set_cons_succ, List.set_cons_zero]
          refine plan_boolc _ (hi_of HO rfl) rfl (fun w' hE => by have hcE := (Ext.trans _ _ _ (by (repeat (first | exact hx1.out | apply Ext.drew | apply Ext.alloc))) hE).hc; (first | replace hE := Ext.unD hE | skip); have hcF := hE.hc; clear hE; go_simp; rfl) (by rfl) ?hF120 ?hT120
          case' hF120 =>
            intro hb120
            simp only [Act.put, List.setIfInBounds_toArray, List.set_cons_succ, List.set_cons_zero]
            refine plan_skip (hi_of HO rfl) (by rw [HO.out]; rfl) ?_
            simp only [Act.put, List.setIfInBounds_toArray, List.set_cons_succ, List.set_cons_zero]
            refine plan_skip (hi_of HO rfl) (by rw [HO.out]; rfl) ?_
            simp only [Act.put, List.setIfInBounds_toArray, List.set_cons_succ, List.set_cons_zero]
            refine plan_skip (hi_of HO rfl) (by rw [HO.out]; rfl) ?_
            simp only [Act.put, List.setIfInBounds_toArray, List.set_cons_succ, List.set_cons_zero]
            refine plan_skip (hi_of HO rfl) (by rw [HO.out]; rfl) ?_
            simp only [Act.put, List.setIfInBounds_toArray, List.set_cons_succ, List.set_cons_zero]
            refine plan_skip (hi_of HO rfl) (by rw [HO.out]; rfl) ?_
            simp only [Act.put, List.setIfInBounds_toArray, List.set_cons_succ, List.set_cons_zero]
            refine plan_skip (hi_of HO rfl) (by rw [HO.out]; rfl) ?_
            simp only [Act.put, List.setIfInBounds_toArray, List.set_cons_succ, List.set_cons_zero]
            refine plan_skip (hi_of HO rfl) (by rw [HO.out]; rfl) ?_
            simp only [Act.put, List.setIfInBounds_toArray, List.set_cons_succ, List.set_cons_zero]
            refine plan_read _ (hi_of HO rfl) rfl (fun w' hE => by have hcE := (Ext.trans _ _ _ (by (repeat (first | exact hx1.out | apply Ext.drew | apply Ext.alloc))) hE).hc; (first | replace hE := Ext.unD hE | skip); have hcF := hE.hc; clear hE; go_simp; rfl) ?_
            simp only [Act.put, List.setIfInBounds_toArray, List.set_cons_succ, List.set_cons_zero]
            refine plan_read _ (hi_of HO rfl) rfl (fun w' hE => by have hcE := (Ext.trans _ _ _ (by (repeat (first | exact hx1.out | apply Ext.drew | apply Ext.alloc))) hE).hc; (first | replace hE := Ext.unD hE | skip); have hcF := hE.hc; clear hE; go_simp; rfl) ?_
            simp only [Act.put, List.setIfInBounds_toArray, List.set_cons_succ, List.set_cons_zero]
            refine plan_read _ (hi_of HO rfl) (by rw [HO.out]; rfl) (fun w' hE => by have hcE := (Ext.trans _ _ _ (by (repeat (first | exact hx1.out | apply Ext.drew | apply Ext.alloc))) hE).hc; (first | replace hE := Ext.unD hE | skip); have hcF := hE.hc; clear hE; go_simp; rfl) ?_
            simp only [Act.put, List.setIfInBounds_toArray, List.set_cons_succ, List.set_cons_zero]
            refine plan_read _ (hi_of HO rfl) (by rw [HO.out]; rfl) (fun w' hE => by have hcE := (Ext.trans _ _ _ (by (repeat (first | exact hx1.out | apply Ext.drew | apply Ext.alloc))) hE).hc; (first | replace hE := Ext.unD hE | skip); have hcF := hE.hc; clear hE; go_simp; rfl) ?_
            simp only [Act.put, List.setIfInBounds_toArray, List.set_cons_succ, List.set_cons_zero]
            refine plan_read _ (hi_of HO rfl) (by rw [HO.out]; rfl) (fun w' hE => by have hcE := (Ext.trans _ _ _ (by (repeat (first | exact hx1.out | apply Ext.drew | apply Ext.alloc))) hE).hc; (first | replace hE := Ext.unD hE | skip); have hcF := hE.hc; clear hE; go_simp; rfl) ?_
            simp only [Act.put, List.setIfInBounds_toArray, List.set_cons_succ, List.set_cons_zero]
            refine plan_read _ (hi_of HO rfl) (by rw [HO.out]; rfl) (fun w' hE => by have hcE := (Ext.trans _ _ _ (by (repeat (first | exact hx1.out | apply Ext.drew | apply Ext.alloc))) hE).hc; (first | replace hE := Ext.unD hE | skip); have hcF := hE.hc; clear hE; go_simp; rfl) ?_
            simp only [Act.put, List.setIfInBounds_toArray, List.set_cons_succ, List.set_cons_zero]
            refine plan_read _ (hi_of HO rfl) (by rw [HO.out]; rfl) (fun w' hE => by have hcE := (Ext.trans _ _ _ (by (repeat (first | exact hx1.out | apply Ext.drew | apply Ext.alloc))) hE).hc; (first | replace hE := Ext.unD hE | skip); have hcF := hE.hc; clear hE; go_simp; rfl) ?_
            simp only [Act.put, List.setIfInBounds_toArray, List.set_cons_succ, List.set_cons_zero]
            refine plan_read _ (hi_of HO rfl) (by rw [HO.out]; rfl) (fun w' hE => by have hcE := (Ext.trans _ _ _ (by (repeat (first | exact hx1.out | apply Ext.drew | apply Ext.alloc))) hE).hc; (first | replace hE := Ext.unD hE | skip); have hcF := hE.hc; clear hE; go_simp; rfl) ?_
            simp only [Act.put, List.setIfInBounds_toArray, List.set_cons_succ, List.set_cons_zero]
            refine plan_read _ (hi_of HO rfl) (by rw [HO.out]; rfl) (fun w' hE => by have hcE := (Ext.trans _ _ _ (by (repeat (first | exact hx1.out | apply Ext.drew | apply Ext.alloc))) hE).hc; (first | replace hE := Ext.unD hE | skip); have hcF := hE.hc; clear hE; go_simp; rfl) ?_
            simp only [Act.put, List.setIfInBounds_toArray, List.set_cons_succ, List.set_cons_zero]
            refine plan_read _ (hi_of HO rfl) (by rw [HO.out]; rfl) (fun w' hE => by have hcE := (Ext.trans _ _ _ (by (repeat (first | exact hx1.out | apply Ext.drew | apply Ext.alloc))) hE).hc; (first | replace hE := Ext.unD hE | skip); have hcF := hE.hc; clear hE; go_simp; rfl) ?_
            simp only [Act.put, List.setIfInBounds_toArray, List.set_cons_succ, List.set_cons_zero]
            refine plan_read _ (hi_of HO rfl) (by rw [HO.out]; rfl) (fun w' hE => by have hcE := (Ext.trans _ _ _ (by (repeat (first | exact hx1.out | apply Ext.drew | apply Ext.alloc))) hE).hc; (first | replace hE := Ext.unD hE | skip); have hcF := hE.hc; clear hE; go_simp; rfl) ?_
            simp only [Act.put, List.setIfInBounds_toArray, List.set_cons_succ, List.set_cons_zero]
            refine plan_read _ (hi_of HO rfl) (by rw [HO.out]; rfl) (fun w' hE => by have hcE := (Ext.trans _ _ _ (by (repeat (first | exact hx1.out | apply Ext.drew | apply Ext.alloc))) hE).hc; (first | replace hE := Ext.unD hE | skip); have hcF := hE.hc; clear hE; go_simp; rfl) ?_
            simp only [Act.put, List.setIfInBounds_toArray, List.set_cons_succ, List.set_cons_zero]
            refine plan_boolc _ (hi_of HO rfl) (by rw [HO.out]; rfl) (fun w' hE => by have hcE := (Ext.trans _ _ _ (by (repeat (first | exact hx1.out | apply Ext.drew | apply Ext.alloc))) hE).hc; (first | replace hE := Ext.unD hE | skip); have hcF := hE.hc; clear hE; go_simp; rfl) (by rfl) ?hF121 ?hT121
            case' hF121 =>
              intro hb121
              simp only [Act.put, List.setIfInBounds_toArray, List.set_cons_succ, List.set_cons_zero]
              refine plan_read _ (hi_of HO rfl) (by rw [HO.out]; rfl) (fun w' hE => by have hcE := (Ext.trans _ _ _ (by (repeat (first | exact hx1.out | apply Ext.drew | apply Ext.alloc))) hE).hc; (first | replace hE := Ext.unD hE | skip); have hcF := hE.hc; clear hE; go_simp; rfl) ?_
              simp only [Act.put, List.setIfInBounds_toArray, List.set_cons_succ, List.set_cons_zero]
              refine plan_read _ (hi_of HO rfl) (by rw [HO.out]; rfl) (fun w' hE => by have hcE := (Ext.trans _ _ _ (by (repeat (first | exact hx1.out | apply Ext.drew | apply Ext.alloc))) hE).hc; (first | replace hE := Ext.unD hE | skip); have hcF := hE.hc; clear hE; go_simp; rfl) ?_
              simp only [Act.put, List.setIfInBounds_toArray, List.set_cons_succ, List.set_cons_zero]
              refine plan_read _ (hi_of HO rfl) (by rw [HO.out]; rfl) (fun w' hE => by have hcE := (Ext.trans _ _ _ (by (repeat (first | exact hx1.out | apply Ext.drew | apply Ext.alloc))) hE).hc; (first | replace hE := Ext.unD hE | skip); have hcF := hE.hc; clear hE; go_simp; rfl) ?_
              simp only [Act.put, List.setIfInBounds_toArray, List.set_cons_succ, List.set_cons_zero]
              refine plan_read _ (hi_of HO rfl) (by rw [HO.out]; rfl) (fun w' hE => by have hcE := (Ext.trans _ _ _ (by (repeat (first | exact hx1.out | apply Ext.drew | apply Ext.alloc))) hE).hc; (first | replace hE := Ext.unD hE | skip); have hcF := hE.hc; clear hE; go_simp; rfl) ?_
              simp only [Act.put, List.setIfInBounds_toArray, List.set_cons_succ, List.set_cons_zero]
              refine plan_read _ (hi_of HO rfl) (by rw [HO.out]; rfl) (fun w' hE => by have hcE := (Ext.trans _ _ _ (by (repeat (first | exact hx1.out | apply Ext.drew | apply Ext.alloc))) hE).hc; (first | replace hE := Ext.unD hE | skip); have hcF := hE.hc; clear hE; go_simp; rfl) ?_
              simp only [Act.put, List.setIfInBounds_toArray, List.set_cons_succ, List.set_cons_zero]
              refine plan_read _ (hi_of HO rfl) (by rw [HO.out]; rfl) (fun w' hE => by have hcE := (Ext.trans _ _ _ (by (repeat (first | exact hx1.out | apply Ext.drew | apply Ext.alloc))) hE).hc; (first | replace hE := Ext.unD hE | skip); have hcF := hE.hc; clear hE; go_simp; rfl) ?_
              simp only [Act.put, List.setIfInBounds_toArray, List.set_cons_succ, List.set_cons_zero]
              refine plan_read _ (hi_of HO rfl) (by rw [HO.out]; rfl) (fun w' hE => by have hcE := (Ext.trans _ _ _ (by (repeat (first | exact hx1.out | apply Ext.drew | apply Ext.alloc))) hE).hc; (first | replace hE := Ext.unD hE | skip); have hcF := hE.hc; clear hE; go_simp; rfl) ?_
              simp only [Act.put, List.setIfInBounds_toArray, List.set_cons_succ, List.set_cons_zero]
              refine plan_read _ (hi_of HO rfl) (by rw [HO.out]; rfl) (fun w' hE => by have hcE := (Ext.trans _ _ _ (by (repeat (first | exact hx1.out | apply Ext.drew | apply Ext.alloc))) hE).hc; (first | replace hE := Ext.unD hE | skip); have hcF := hE.hc; clear hE; go_simp; rfl) ?_
              simp only [Act.put, List.setIfInBounds_toArray, List.set_cons_succ, List.set_cons_zero]
              refine plan_read _ (hi_of HO rfl) (by rw [HO.out]; rfl) (fun w' hE => by have hcE := (Ext.trans _ _ _ (by (repeat (first | exact hx1.out | apply Ext.drew | apply Ext.alloc))) hE).hc; (first | replace hE := Ext.unD hE | skip); have hcF := hE.hc; clear hE; go_simp; rfl) ?_
              simp only [Act.put, List.setIfInBounds_toArray, List.set_cons_succ, List.set_cons_zero]
              refine plan_read _ (hi_of HO rfl) (by rw [HO.out]; rfl) (fun w' hE => by have hcE := (Ext.trans _ _ _ (by (repeat (first | exact hx1.out | apply Ext.drew | apply Ext.alloc))) hE).hc; (first | replace hE := Ext.unD hE | skip); have hcF := hE.hc; clear hE; go_simp; rfl) ?_
              simp only [Act.put, List.setIfInBounds_toArray, List.set_cons_succ, List.set_cons_zero]
              refine plan_read _ (hi_of HO rfl) (by rw [HO.out]; rfl) (fun w' hE => by have hcE := (Ext.trans _ _ _ (by (repeat (first | exact hx1.out | apply Ext.drew | apply Ext.alloc))) hE).hc; (first | replace hE := Ext.unD hE | skip); have hcF := hE.hc; clear hE; go_simp; rfl) ?_
              simp only [Act.put, List.setIfInBounds_toArray, List.set_cons_succ, List.set_cons_zero]
              refine plan_read _ (hi_of HO rfl) (by rw [HO.out]; rfl) (fun w' hE => by have hcE := (Ext.trans _ _ _ (by (repeat (first | exact hx1.out | apply Ext.drew | apply Ext.alloc))) hE).hc; (first | replace hE := Ext.unD hE | skip); have hcF := hE.hc; clear hE; go_simp; rfl) ?_
              simp only [Act.put, List.setIfInBounds_toArray, List.set_cons_succ, List.set_cons_zero]
              refine plan_read _ (hi_of HO rfl) (by rw [HO.out]; rfl) (fun w' hE => by have hcE := (Ext.trans _ _ _ (by (repeat (first | exact hx1.out | apply Ext.drew | apply Ext.alloc))) hE).hc; (first | replace hE := Ext.unD hE | skip); have hcF := hE.hc; clear hE; go_simp; rfl) ?_
              simp only [Act.put, List.setIfInBounds_toArray, List.set_cons_succ, List.set_cons_zero]
              refine plan_read _ (hi_of HO rfl) rfl (fun w' hE => by have hcE := (Ext.trans _ _ _ (by (repeat (first | exact hx1.out | apply Ext.drew | apply Ext.alloc))) hE).hc; (first | replace hE := Ext.unD hE | skip); have hcF := hE.hc; clear hE; go_simp; rfl) ?_
              simp only [Act.put, List.setIfInBounds_toArray, List.set_cons_succ, List.set_cons_zero]
              refine plan_done ?fin122
            case' hT121 =>
              intro hb121
              simp only [Act.put, List.setIfInBounds_toArray, List.set_cons_succ, List.set_cons_zero]
              refine plan_skip (hi_of HO rfl) (by rw [HO.out]; rfl) ?_
              simp only [Act.put, List.setIfInBounds_toArray, List.set_cons_succ, List.set_cons_zero]
              refine plan_skip (hi_of HO rfl) (by rw [HO.out]; rfl) ?_
              simp only [Act.put, List.setIfInBounds_toArray, List.set_cons_succ, List.set_cons_zero]
              refine plan_skip (hi_of HO rfl) (by rw [HO.out]; rfl) ?_
              simp only [Act.put, List.setIfInBounds_toArray, List.set_cons_succ, List.set_cons_zero]
              refine plan_skip (hi_of HO rfl) (by rw [HO.out]; rfl) ?_
              simp only [Act.put, List.setIfInBounds_toArray, List.set_cons_succ, List.set_cons_zero]
              refine plan_skip (hi_of HO rfl) (by rw [HO.out]; rfl) ?_
              simp only [Act.put, List.setIfInBounds_toArray, List.set_cons_succ, List.set_cons_zero]
              refine plan_skip (hi_of HO rfl) (by rw [HO.out]; rfl) ?_
              simp only [Act.put, List.setIfInBounds_toArray, List.set_cons_succ, List.set_cons_zero]
              refine plan_skip (hi_of HO rfl) (by rw [HO.out]; rfl) ?_
              simp only [Act.put, List.setIfInBounds_toArray, List.set_cons_succ, List.set_cons_zero]
              refine plan_skip (hi_of HO rfl) (by rw [HO.out]; rfl) ?_
              simp only [Act.put, List.setIfInBounds_toArray, List.set_cons_succ, List.set_cons_zero]
              refine plan_skip (hi_of HO rfl) (by rw [HO.out]; rfl) ?_
              simp only [Act.put, List.setIfInBounds_toArray, List.set_cons_succ, List.set_cons_zero]
              refine plan_skip (hi_of HO rfl) (by rw [HO.out]; rfl) ?_
              simp only [Act.put, List.setIfInBounds_toArray, List.set_cons_succ, List.set_cons_zero]
              refine plan_skip (hi_of HO rfl) (by rw [HO.out]; rfl) ?_
              simp only [Act.put, List.setIfInBounds_toArray, List.set_cons_succ, List.set_cons_zero]
              refine plan_read _ (hi_of HO rfl) (by rw [HO.out]; rfl) (fun w' hE => by have hcE := (Ext.trans _ _ _ (by (repeat (first | exact hx1.out | apply Ext.drew | apply Ext.alloc))) hE).hc; (first | replace hE := Ext.unD hE | skip); have hcF := hE.hc; clear hE; go_simp; rfl) ?_
              simp only [Act.put, List.setIfInBounds_toArray, List.set_cons_succ, List.set_cons_zero]
              refine plan_read _ (hi_of HO rfl) (by rw [HO.out]; rfl) (fun w' hE => by have hcE := (Ext.trans _ _ _ (by (repeat (first | exact hx1.out | apply Ext.drew | apply Ext.alloc))) hE).hc; (first | replace hE := Ext.unD hE | skip); have hcF := hE.hc; clear hE; go_simp; rfl) ?_
              simp only [Act.put, List.setIfInBounds_toArray, List.set_cons_succ, List.set_cons_zero]
              refine plan_read _ (hi_of HO rfl) rfl (fun w' hE => by have hcE := (Ext.trans _ _ _ (by (repeat (first | exact hx1.out | apply Ext.drew | apply Ext.alloc))) hE).hc; (first | replace hE := Ext.unD hE | skip); have hcF := hE.hc; clear hE; go_simp; rfl) ?_
              simp only [Act.put, List.setIfInBounds_toArray, List.set_cons_succ, List.set_cons_zero]
              refine plan_done ?fin123
          case' hT120 =>
            intro hb120
            simp only [Act.put, List.setIfInBounds_toArray, List.set_cons_succ, List.set_cons_zero]
            refine plan_read _ (hi_of HO rfl) (by rw [HO.out]; rfl) (fun w' hE => by have hcE := (Ext.trans _ _ _ (by (repeat (first | exact hx1.out | apply Ext.drew | apply Ext.alloc))) hE).hc; (first | replace hE := Ext.unD hE | skip); have hcF := hE.hc; clear hE; go_simp; rfl) ?_
            simp only [Act.put, List.setIfInBounds_toArray, List.set_cons_succ, List.set_cons_zero]
            refine plan_read _ (hi_of HO rfl) (by rw [HO.out]; rfl) (fun w' hE => by have hcE := (Ext.trans _ _ _ (by (repeat (first | exact hx1.out | apply Ext.drew | apply Ext.alloc))) hE).hc; (first | replace hE := Ext.unD hE | skip); have hcF := hE.hc; clear hE; go_simp; rfl) ?_
            simp only [Act.put, List.setIfInBounds_toArray, List.set_cons_succ, List.set_cons_zero]
            refine plan_read _ (hi_of HO rfl) (by rw [HO.out]; rfl) (fun w' hE => by have hcE := (Ext.trans _ _ _ (by (repeat (first | exact hx1.out | apply Ext.drew | apply Ext.alloc))) hE).hc; (first | replace hE := Ext.unD hE | skip); have hcF := hE.hc; clear hE; go_simp; rfl) ?_
            simp only [Act.put, List.setIfInBounds_toArray, List.set_cons_succ, List.set_cons_zero]
            refine plan_read _ (hi_of HO rfl) (by rw [HO.out]; rfl) (fun w' hE => by have hcE := (Ext.trans _ _ _ (by (repeat (first | exact hx1.out | apply Ext.drew | apply Ext.alloc))) hE).hc; (first | replace hE := Ext.unD hE | skip); have hcF := hE.hc; clear hE; go_simp; rfl) ?_
            simp only [Act.put, List.setIfInBounds_toArray, List.set_cons_succ, List.set_cons_zero]
            refine plan_read _ (hi_of HO rfl) (by rw [HO.out]; rfl) (fun w' hE => by have hcE := (Ext.trans _ _ _ (by (repeat (first | exact hx1.out | apply Ext.drew | apply Ext.alloc))) hE).hc; (first | replace hE := Ext.unD hE | skip); have hcF := hE.hc; clear hE; go_simp; rfl) ?_
            simp only [Act.put, List.setIfInBounds_toArray, List.set_cons_succ, List.set_cons_zero]
            refine plan_read _ (hi_of HO rfl) (by rw [HO.out]; rfl) (fun w' hE => by have hcE := (Ext.trans _ _ _ (by (repeat (first | exact hx1.out | apply Ext.drew | apply Ext.alloc))) hE).hc; (first | replace hE := Ext.unD hE | skip); have hcF := hE.hc; clear hE; go_simp; rfl) ?_
            simp only [Act.put, List.setIfInBounds_toArray, List.set_cons_succ, List.set_cons_zero]
            refine plan_read _ (hi_of HO rfl) (by rw [HO.out]; rfl) (fun w' hE => by have hcE := (Ext.trans _ _ _ (by (repeat (first | exact hx1.out | apply Ext.drew | apply Ext.alloc))) hE).hc; (first | replace hE := Ext.unD hE | skip); have hcF := hE.hc; clear hE; go_simp; rfl) ?_
            simp only [Act.put, List.setIfInBounds_toArray, List.set_cons_succ, List.set_cons_zero]
            refine plan_read _ (hi_of HO rfl) rfl (fun w' hE => by have hcE := (Ext.trans _ _ _ (by (repeat (first | exact hx1.out | apply Ext.drew | apply Ext.alloc))) hE).hc; (first | replace hE := Ext.unD hE | skip); have hcF := hE.hc; clear hE; go_simp; rfl) ?_
            simp only [Act.put, List.setIfInBounds_toArray, List.set_cons_succ, List.set_cons_zero]
            refine plan_boolc _ (hi_of HO rfl) rfl (fun w' hE => by have hcE := (Ext.trans _ _ _ (by (repeat (first | exact hx1.out | apply Ext.drew | apply Ext.alloc))) hE).hc; (first | replace hE := Ext.unD hE | skip); have hcF := hE.hc; clear hE; go_simp; rfl) (by rfl) ?hF124 ?hT124
            case' hF124 =>
              intro hb124
              simp only [Act.put, List.setIfInBounds_toArray, List.set_cons_succ, List.set_cons_zero]
              refine plan_read _ (hi_of HO rfl) (by rw [HO.out]; rfl) (fun w' hE => by have hcE := (Ext.trans _ _ _ (by (repeat (first | exact hx1.out | apply Ext.drew | apply Ext.alloc))) hE).hc; (first | replace hE := Ext.unD hE | skip); have hcF := hE.hc; clear hE; go_simp; rfl) ?_
              simp only [Act.put, List.setIfInBounds_toArray, List.set_cons_succ, List.set_cons_zero]
              refine plan_read _ (hi_of HO rfl) (by rw [HO.out]; rfl) (fun w' hE => by have hcE := (Ext.trans _ _ _ (by (repeat (first | exact hx1.out | apply Ext.drew | apply Ext.alloc))) hE).hc; (first | replace hE := Ext.unD hE | skip); have hcF := hE.hc; clear hE; go_simp; rfl) ?_
              simp only [Act.put, List.setIfInBounds_toArray, List.set_cons_succ, List.set_cons_zero]
              refine plan_read _ (hi_of HO rfl) (by rw [HO.out]; rfl) (fun w' hE => by have hcE := (Ext.trans _ _ _ (by (repeat (first | exact hx1.out | apply Ext.drew | apply Ext.alloc))) hE).hc; (first | replace hE := Ext.unD hE | skip); have hcF := hE.hc; clear hE; go_simp; rfl) ?_
              simp only [Act.put, List.setIfInBounds_toArray, List.set_cons_succ, List.set_cons_zero]
              refine plan_read _ (hi_of HO rfl) (by rw [HO.out]; rfl) (fun w' hE => by have hcE := (Ext.trans _ _ _ (by (repeat (first | exact hx1.out | apply Ext.drew | apply Ext.alloc))) hE).hc; (first | replace hE := Ext.unD hE | skip); have hcF := hE.hc; clear hE; go_simp; rfl) ?_
              simp only [Act.put, List.setIfInBounds_toArray, List.set_cons_succ, List.set_cons_zero]
              refine plan_read _ (hi_of HO rfl) (by rw [HO.out]; rfl) (fun w' hE => by have hcE := (Ext.trans _ _ _ (by (repeat (first | exact hx1.out | apply Ext.drew | apply Ext.alloc))) hE).hc; (first | replace hE := Ext.unD hE | skip); have hcF := hE.hc; clear hE; go_simp; rfl) ?_
              simp only [Act.put, List.setIfInBounds_toArray, List.set_cons_succ, List.set_cons_zero]
              refine plan_read _ (hi_of HO rfl) (by rw [HO.out]; rfl) (fun w' hE => by have hcE := (Ext.trans _ _ _ (by (repeat (first | exact hx1.out | apply Ext.drew | apply Ext.alloc))) hE).hc; (first | replace hE := Ext.unD hE | skip); have hcF := hE.hc; clear hE; go_simp; rfl) ?_
              simp only [Act.put, List.setIfInBounds_toArray, List.set_cons_succ, List.set_cons_zero]
              refine plan_read _ (hi_of HO rfl) (by rw [HO.out]; rfl) (fun w' hE => by have hcE := (Ext.trans _ _ _ (by (repeat (first | exact hx1.out | apply Ext.drew | apply Ext.alloc))) hE).hc; (first | replace hE := Ext.unD hE | skip); have hcF := hE.hc; clear hE; go_simp; rfl) ?_
              simp only [Act.put, List.setIfInBounds_toArray, List.set_cons_succ, List.set_cons_zero]
              refine plan_read _ (hi_of HO rfl) (by rw [HO.out]; rfl) (fun w' hE => by have hcE := (Ext.trans _ _ _ (by (repeat (first | exact hx1.out | apply Ext.drew | apply Ext.alloc))) hE).hc; (first | replace hE := Ext.unD hE | skip); have hcF := hE.hc; clear hE; go_simp; rfl) ?_
              simp only [Act.put, List.setIfInBounds_toArray, List.set_cons_succ, List.set_cons_zero]
              refine plan_read _ (hi_of HO rfl) (by rw [HO.out]; rfl) (fun w' hE => by have hcE := (Ext.trans _ _ _ (by (repeat (first | exact hx1.out | apply Ext.drew | apply Ext.alloc))) hE).hc; (first | replace hE := Ext.unD hE | skip); have hcF := hE.hc; clear hE; go_simp; rfl) ?_
              simp only [Act.put, List.setIfInBounds_toArray, List.set_cons_succ, List.set_cons_zero]
              refine plan_read _ (hi_of HO rfl) (by rw [HO.out]; rfl) (fun w' hE => by have hcE := (Ext.trans _ _ _ (by (repeat (first | exact hx1.out | apply Ext.drew | apply Ext.alloc))) hE).hc; (first | replace hE := Ext.unD hE | skip); have hcF := hE.hc; clear hE; go_simp; rfl) ?_
              simp only [Act.put, List.setIfInBounds_toArray, List.set_cons_succ, List.set_cons_zero]
              refine plan_boolc _ (hi_of HO rfl) (by rw [HO.out]; rfl) (fun w' hE => by have hcE := (Ext.trans _ _ _ (by (repeat (first | exact hx1.out | apply Ext.drew | apply Ext.alloc))) hE).hc; (first | replace hE := Ext.unD hE | skip); have hcF := hE.hc; clear hE; go_simp; rfl) (by rfl) ?hF125 ?hT125
              case' hF125 =>
                intro hb125
                simp only [Act.put, List.setIfInBounds_toArray, List.set_cons_succ, List.set_cons_zero]
                refine plan_read _ (hi_of HO rfl) (by rw [HO.out]; rfl) (fun w' hE => by have hcE := (Ext.trans _ _ _ (by (repeat (first | exact hx1.out | apply Ext.drew | apply Ext.alloc))) hE).hc; (first | replace hE := Ext.unD hE | skip); have hcF := hE.hc; clear hE; go_simp; rfl) ?_
                simp only [Act.put, List.setIfInBounds_toArray, List.set_cons_succ, List.set_cons_zero]
                refine plan_read _ (hi_of HO rfl) (by rw [HO.out]; rfl) (fun w' hE => by have hcE := (Ext.trans _ _ _ (by (repeat (first | exact hx1.out | apply Ext.drew | apply Ext.alloc))) hE).hc; (first | replace hE := Ext.unD hE | skip); have hcF := hE.hc; clear hE; go_simp; rfl) ?_
                simp only [Act.put, List.setIfInBounds_toArray, List.set_cons_succ, List.set_cons_zero]
                refine plan_read _ (hi_of HO rfl) (by rw [HO.out]; rfl) (fun w' hE => by have hcE := (Ext.trans _ _ _ (by (repeat (first | exact hx1.out | apply Ext.drew | apply Ext.alloc))) hE).hc; (first | replace hE := Ext.unD hE | skip); have hcF := hE.hc; clear hE; go_simp; rfl) ?_
                simp only [Act.put, List.setIfInBounds_toArray, List.set_cons_succ, List.set_cons_zero]
                refine plan_read _ (hi_of HO rfl) (by rw [HO.out]; rfl) (fun w' hE => by have hcE := (Ext.trans _ _ _ (by (repeat (first | exact hx1.out | apply Ext.drew | apply Ext.alloc))) hE).hc; (first | replace hE := Ext.unD hE | skip); have hcF := hE.hc; clear hE; go_simp; rfl) ?_
                simp only [Act.put, List.setIfInBounds_toArray, List.set_cons_succ, List.set_cons_zero]
                refine plan_read _ (hi_of HO rfl) (by rw [HO.out]; rfl) (fun w' hE => by have hcE := (Ext.trans _ _ _ (by (repeat (first | exact hx1.out | apply Ext.drew | apply Ext.alloc))) hE).hc; (first | replace hE := Ext.unD hE | skip); have hcF := hE.hc; clear hE; go_simp; rfl) ?_
                simp only [Act.put, List.setIfInBounds_toArray, List.set_cons_succ, List.set_cons_zero]
                refine plan_read _ (hi_of HO rfl) (by rw [HO.out]; rfl) (fun w' hE => by have hcE := (Ext.trans _ _ _ (by (repeat (first | exact hx1.out | apply Ext.drew | apply Ext.alloc))) hE).hc; (first | replace hE := Ext.unD hE | skip); have hcF := hE.hc; clear hE; go_simp; rfl) ?_
                simp only [Act.put, List.setIfInBounds_toArray, List.set_cons_succ, List.set_cons_zero]
                refine plan_read _ (hi_of HO rfl) (by rw [HO.out]; rfl) (fun w' hE => by have hcE := (Ext.trans _ _ _ (by (repeat (first | exact hx1.out | apply Ext.drew | apply Ext.alloc))) hE).hc; (first | replace hE := Ext.unD hE | skip); have hcF := hE.hc; clear hE; go_simp; rfl) ?_
                simp only [Act.put, List.setIfInBounds_toArray, List.set_cons_succ, List.set_cons_zero]
                refine plan_read _ (hi_of HO rfl) (by rw [HO.out]; rfl) (fun w' hE => by have hcE := (Ext.trans _ _ _ (by (repeat (first | exact hx1.out | apply Ext.drew | apply Ext.alloc))) hE).hc; (first | replace hE := Ext.unD hE | skip); have hcF := hE.hc; clear hE; go_simp; rfl) ?_
                simp only [Act.put, List.setIfInBounds_toArray, List.set_cons_succ, List.set_cons_zero]
                refine plan_read _ (hi_of HO rfl) (by rw [HO.out]; rfl) (fun w' hE => by have hcE := (Ext.trans _ _ _ (by (repeat (first | exact hx1.out | apply Ext.drew | apply Ext.alloc))) hE).hc; (first | replace hE := Ext.unD hE | skip); have hcF := hE.hc; clear hE; go_simp; rfl) ?_
                simp only [Act.put, List.setIfInBounds_toArray, List.set_cons_succ, List.set_cons_zero]
                refine plan_read _ (hi_of HO rfl) (by rw [HO.out]; rfl) (fun w' hE => by have hcE := (Ext.trans _ _ _ (by (repeat (first | exact hx1.out | apply Ext.drew | apply Ext.alloc))) hE).hc; (first | replace hE := Ext.unD hE | skip); have hcF := hE.hc; clear hE; go_simp; rfl) ?_
                simp only [Act.put, List.setIfInBounds_toArray, List.set_cons_succ, List.set_cons_zero]
                refine plan_read _ (hi_of HO rfl) (by rw [HO.out]; rfl) (fun w' hE => by have hcE := (Ext.trans _ _ _ (by (repeat (first | exact hx1.out | apply Ext.drew | apply Ext.alloc))) hE).hc; (first | replace hE := Ext.unD hE | skip); have hcF := hE.hc; clear hE; go_simp; rfl) ?_
                simp only [Act.put, List.setIfInBounds_toArray, List.set_cons_succ, List.set_cons_zero]
                refine plan_read _ (hi_of HO rfl) (by rw [HO.out]; rfl) (fun w' hE => by have hcE := (Ext.trans _ _ _ (by (repeat (first | exact hx1.out | apply Ext.drew | apply Ext.alloc))) hE).hc; (first | replace hE := Ext.unD hE | skip); have hcF := hE.hc; clear hE; go_simp; rfl) ?_
                simp only [Act.put, List.setIfInBounds_toArray, List.set_cons_succ, List.set_cons_zero]
                refine plan_read _ (hi_of HO rfl) (by rw [HO.out]; rfl) (fun w' hE => by have hcE := (Ext.trans _ _ _ (by (repeat (first | exact hx1.out | apply Ext.drew | apply Ext.alloc))) hE).hc; (first | replace hE := Ext.unD hE | skip); have hcF := hE.hc; clear hE; go_simp; rfl) ?_
                simp only [Act.put, List.setIfInBounds_toArray, List.set_cons_succ, List.set_cons_zero]
                refine plan_read _ (hi_of HO rfl) rfl (fun w' hE => by have hcE := (Ext.trans _ _ _ (by (repeat (first | exact hx1.out | apply Ext.drew | apply Ext.alloc))) hE).hc; (first | replace hE := Ext.unD hE | skip); have hcF := hE.hc; clear hE; go_simp; rfl) ?_
                simp only [Act.put, List.setIfInBounds_toArray, List.set_cons_succ, List.set_cons_zero]
                refine plan_done ?fin126
              case' hT125 =>
                intro hb125
                simp only [Act.put, List.setIfInBounds_toArray, List.set_cons_succ, List.set_cons_zero]
                refine plan_skip (hi_of HO rfl) (by rw [HO.out]; rfl) ?_
                simp only [Act.put, List.setIfInBounds_toArray, List.set_cons_succ, List.set_cons_zero]
                refine plan_skip (hi_of HO rfl) (by rw [HO.out]; rfl) ?_
                simp only [Act.put, List.setIfInBounds_toArray, List.set_cons_succ, List.set_cons_zero]
                refine plan_skip (hi_of HO rfl) (by rw [HO.out]; rfl) ?_
                simp only [Act.put, List.setIfInBounds_toArray, List.set_cons_succ, List.set_cons_zero]
                refine plan_skip (hi_of HO rfl) (by rw [HO.out]; rfl) ?_
                simp only [Act.put, List.setIfInBounds_toArray, List.set_cons_succ, List.set_cons_zero]
                refine plan_skip (hi_of HO rfl) (by rw [HO.out]; rfl) ?_
                simp only [Act.put, List.setIfInBounds_toArray, List.set_cons_succ, List.set_cons_zero]
                refine plan_skip (hi_of HO rfl) (by rw [HO.out]; rfl) ?_
                simp only [Act.put, List.setIfInBounds_toArray, List.set_cons_succ, List.set_cons_zero]
                refine plan_skip (hi_of HO rfl) (by rw [HO.out]; rfl) ?_
                simp only [Act.put, List.setIfInBounds_toArray, List.set_cons_succ, List.set_cons_zero]
                refine plan_skip (hi_of HO rfl) (by rw [HO.out]; rfl) ?_
                simp only [Act.put, List.setIfInBounds_toArray, List.set_cons_succ, List.set_cons_zero]
                refine plan_skip (hi_of HO rfl) (by rw [HO.out]; rfl) ?_
                simp only [Act.put, List.setIfInBounds_toArray, List.set_cons_succ, List.set_cons_zero]
                refine plan_skip (hi_of HO rfl) (by rw [HO.out]; rfl) ?_
                simp only [Act.put, List.setIfInBounds_toArray, List.set_cons_succ, List.set_cons_zero]
                refine plan_skip (hi_of HO rfl) (by rw [HO.out]; rfl) ?_
                simp only [Act.put, List.setIfInBounds_toArray, List.set_cons_succ, List.set_cons_zero]
                refine plan_read _ (hi_of HO rfl) (by rw [HO.out]; rfl) (fun w' hE => by have hcE := (Ext.trans _ _ _ (by (repeat (first | exact hx1.out | apply Ext.drew | apply Ext.alloc))) hE).hc; (first | replace hE := Ext.unD hE | skip); have hcF := hE.hc; clear hE; go_simp; rfl) ?_
                simp only [Act.put, List.setIfInBounds_toArray, List.set_cons_succ, List.set_cons_zero]
                refine plan_read _ (hi_of HO rfl) (by rw [HO.out]; rfl) (fun w' hE => by have hcE := (Ext.trans _ _ _ (by (repeat (first | exact hx1.out | apply Ext.drew | apply Ext.alloc))) hE).hc; (first | replace hE := Ext.unD hE | skip); have hcF := hE.hc; clear hE; go_simp; rfl) ?_
                simp only [Act.put, List.setIfInBounds_toArray, List.set_cons_succ, List.set_cons_zero]
                refine plan_read _ (hi_of HO rfl) rfl (fun w' hE => by have hcE := (Ext.trans _ _ _ (by (repeat (first | exact hx1.out | apply Ext.drew | apply Ext.alloc))) hE).hc; (first | replace hE := Ext.unD hE | skip); have hcF := hE.hc; clear hE; go_simp; rfl) ?_
                simp only [Act.put, List.setIfInBounds_toArray, List.set_cons_succ, List.set_cons_zero]
                refine plan_done ?fin127
            case' hT124 =>
              intro hb124
              simp only [Act.put, List.setIfInBounds_toArray, List.set_cons_succ, List.set_cons_zero]
              refine plan_skip (hi_of HO rfl) (by rw [HO.out]; rfl) ?_
              simp only [Act.put, List.setIfInBounds_toArray, List.set_cons_succ, List.set_cons_zero]
              refine plan_skip (hi_of HO rfl) (by rw [HO.out]; rfl) ?_
              simp only [Act.put, List.setIfInBounds_toArray, List.set_cons_succ, List.set_cons_zero]
              refine plan_skip (hi_of HO rfl) (by rw [HO.out]; rfl) ?_
              simp only [Act.put, List.setIfInBounds_toArray, List.set_cons_succ, List.set_cons_zero]
              refine plan_skip (hi_of HO rfl) (by rw [HO.out]; rfl) ?_
              simp only [Act.put, List.setIfInBounds_toArray, List.set_cons_succ, List.set_cons_zero]
              refine plan_skip (hi_of HO rfl) (by rw [HO.out]; rfl) ?_
              simp only [Act.put, List.setIfInBounds_toArray, List.set_cons_succ, List.set_cons_zero]
              refine plan_skip (hi_of HO rfl) (by rw [HO.out]; rfl) ?_
              simp only [Act.put, List.setIfInBounds_toArray, List.set_cons_succ, List.set_cons_zero]
              refine plan_skip (hi_of HO rfl) (by rw [HO.out]; rfl) ?_
              simp only [Act.put, List.setIfInBounds_toArray, List.set_cons_succ, List.set_cons_zero]
              refine plan_skip (hi_of HO rfl) (by rw [HO.out]; rfl) ?_
              simp only [Act.put, List.setIfInBounds_toArray, List.set_cons_succ, List.set_cons_zero]
              refine plan_skip (hi_of HO rfl) (by rw [HO.out]; rfl) ?_
              simp only [Act.put, List.setIfInBounds_toArray, List.set_cons_succ, List.set_cons_zero]
              refine plan_skip (hi_of HO rfl) (by rw [HO.out]; rfl) ?_
              simp only [Act.put, List.setIfInBounds_toArray, List.set_cons_succ, List.set_cons_zero]
              refine plan_skip (hi_of HO rfl) (by rw [HO.out]; rfl) ?_
              simp only [Act.put, List.setIfInBounds_toArray, List.set_cons_succ, List.set_cons_zero]
              refine plan_skip (hi_of HO rfl) (by rw [HO.out]; rfl) ?_
              simp only [Act.put, List.setIfInBounds_toArray, List.set_cons_succ, List.set_cons_zero]
              refine plan_skip (hi_of HO rfl) (by rw [HO.out]; rfl) ?_
              simp only [Act.put, List.setIfInBounds_toArray, List.set_cons_succ, List.set_cons_zero]
              refine plan_skip (hi_of HO rfl) (by rw [HO.out]; rfl) ?_
              simp only [Act.put, List.setIfInBounds_toArray, List.set_cons_succ, List.set_cons_zero]
              refine plan_skip (hi_of HO rfl) (by rw [HO.out]; rfl) ?_
              simp only [Act.put, List.setIfInBounds_toArray, List.set_cons_succ, List.set_cons_zero]
              refine plan_skip (hi_of HO rfl) (by rw [HO.out]; rfl) ?_
              simp only [Act.put, List.setIfInBounds_toArray, List.set_cons_succ, List.set_cons_zero]
              refine plan_skip (hi_of HO rfl) (by rw [HO.out]; rfl) ?_
              simp only [Act.put, List.setIfInBounds_toArray, List.set_cons_succ, List.set_cons_zero]
              refine plan_skip (hi_of HO rfl) (by rw [HO.out]; rfl) ?_
              simp only [Act.put, List.setIfInBounds_toArray, List.set_cons_succ, List.set_cons_zero]
              refine plan_skip (hi_of HO rfl) (by rw [HO.out]; rfl) ?_
              simp only [Act.put, List.setIfInBounds_toArray, List.set_cons_succ, List.set_cons_zero]
              refine plan_skip (hi_of HO rfl) (by rw [HO.out]; rfl) ?_
              simp only [Act.put, List.setIfInBounds_toArray, List.set_cons_succ, List.set_cons_zero]
              refine plan_skip (hi_of HO rfl) (by rw [HO.out]; rfl) ?_
              simp only [Act.put, List.setIfInBounds_toArray, List.set_cons_succ, List.set_cons_zero]
              refine plan_skip (hi_of HO rfl) (by rw [HO.out]; rfl) ?_
              simp only [Act.put, List.setIfInBounds_toArray, List.set_cons_succ, List.set_cons_zero]
              refine plan_skip (hi_of HO rfl) (by rw [HO.out]; rfl) ?_
              simp only [Act.put, List.setIfInBounds_toArray, List.set_cons_succ, List.set_cons_zero]
              refine plan_skip (hi_of HO rfl) (by rw [HO.out]; rfl) ?_
              simp only [Act.put, List.setIfInBounds_toArray, List.set_cons_succ, List.set_cons_zero]
              refine plan_read _ (hi_of HO rfl) rfl (fun w' hE => by have hcE := (Ext.trans _ _ _ (by (repeat (first | exact hx1.out | apply Ext.drew | apply Ext.alloc))) hE).hc; (first | replace hE := Ext.unD hE | skip); have hcF := hE.hc; clear hE; go_simp; rfl) ?_
              simp only [Act.put, List.setIfInBounds_toArray, List.set_cons_succ, List.set_cons_zero]
              refine plan_done ?fin128
          all_goals (go_wp2_with (first | (go_at_call 123; refine (ritems_any _ _ _ _ _ _ _ _ _ _ (EntSl.ext HE.out (Ext.trans _ _ _ HX0.out (Ext.drew (Ext.refl _))))).mono ?_; rintro e w3 ⟨rfl, hx3⟩; replace hx3 := hid_mk hx3)))
          all_goals first
            | (go_ret
               refine ⟨ret_int ?_, Ext.trans _ _ _ HX0.out (by (repeat (first | exact Ext.refl _ | apply Ext.drew_left | apply Ext.drew | apply Ext.alloc)))⟩
               rw [HQ.out, if_neg (by simp [HF.out]), if_neg (by simp [HZ.out])]
               clear hc1 hl1 he1 hn1
               rw [if_pos (by simp [tilesBad, hprev.out, *])]; done)
            | (go_ret
               refine ⟨ret_int ?_, Ext.trans _ _ _ HX0.out (Ext.trans _ _ _ (Ext.drew (Ext.refl _)) (by assumption : Hid _).out)⟩
               rw [HQ.out, if_neg (by simp [HF.out]), if_neg (by simp [HZ.out])]
               clear hc1 hl1 he1 hn1
               rw [if_neg (by simp [tilesBad, hprev.out, *]), if_pos h1]; done)
      · go_wp2
        go_ret
        refine ⟨ret_int ?_, Ext.trans _ _ _ ((Ext.refl _).alloc _) hx1.out⟩
        rw [HQ.out, if_neg (by simp [HF.out]), if_pos hz]
  · have HF := hid_mk hf
    clear hf
    go_enter Try.func108, Try.ntmps108
    go_wp2_with fail
    all_goals first
      | (go_ret
         refine ⟨ret_int ?_, by (repeat (first | exact Ext.refl _ | apply Ext.drew_left | apply Ext.drew | apply Ext.alloc))⟩
         rw [HQ.out, if_pos HF.out])
      | (exfalso
         refine HF.out ?_
         simp only [fieldsErr]
         rw [if_neg (by simp_all; omega)])
      | (exfalso
         refine HF.out ?_
         simp only [fieldsErr]
         rw [if_neg (by simp_all)])
end Go.Proofs.Ytgglbohcnlcagaa
