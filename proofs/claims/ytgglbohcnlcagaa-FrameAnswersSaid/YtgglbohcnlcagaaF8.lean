/- What is wrong with the parts of a frame, the program's answer. -/
import Derived.Test.YtgglbohcnlcagaaF6
namespace Go.Proofs.Ytgglbohcnlcagaa
open Go.RowKit
set_option maxHeartbeats 8000000
set_option maxRecDepth 100000
set_option linter.unusedSimpArgs false
set_option linter.unusedVariables false
attribute [local go_sem ↓] eql_tally neq_tally eql_sum neq_sum
theorem en_fCheckParts : Enters Try.prog 102 := ⟨_, Try.func102, by kernel_rfl, rfl⟩

theorem partChk_eq' (prev : Option Prt) (p : Prt) : partChk prev p = if fieldsErr p ≠ 0 then 114
    else if rngCheck p.lo p.hi p.op ≠ 0 then rngCheck p.lo p.hi p.op
    else if tilesBad prev p = true then 115
    else if p.kind ≠ 1 then partItems p.kind p.lo p.hi p.op p.ents
    else if tallyBad p = true then 117 else 0 := by
  unfold partChk; rfl
theorem tally_iff (p : Prt) : tallyBad p = true ↔ (p.cnt < 0 ∨ 256 < p.cnt ∨ p.cnt = 0 ∧ ¬ (p.s0 = 0 ∧ p.s1 = 0)) := by
  simp only [tallyBad, Bool.or_eq_true, Bool.and_eq_true, decide_eq_true_eq, Bool.not_eq_true', decide_eq_false_iff_not, or_assoc]
theorem rngEmpty_ok {lo hi : ByteArray} {op : Bool} (h : rngCheck lo hi op = 0) : rngEmpty lo hi op = (!op && lo.toList == hi.toList) := by
  simp [rngEmpty, h]



theorem fCheckParts_any (l : List Prt) (sv : Value) (w : World) (hs : PrtSl w sv l) :
    Calls Try.prog 102 #[sv] w fun e w' => e = .returned (.int .i64 (partsChk l)) ∧ Ext w w' := by
  have HS0 := hid_mk hs
  obtain ⟨a, c, rfl, hlc, hc63, hcells⟩ := hs
  have HC := hid_mk hcells
  clear hcells
  have HQ := hid_mk (partsChk_eq l)
  generalize partsChk l = tot at *
  have hl63 : l.length ≤ 4611686018427387904 := by omega
  go_enter Try.func102, Try.ntmps102
  go_wp2
  · go_ret
    exact ⟨ret_int (by rw [HQ.out, if_pos (by omega)]), Ext.refl _⟩
  · have hle : l.length ≤ 768 := by omega
    go_loopw [3, 17] (fun n i wr => ∃ k : Nat, k ≤ l.length ∧ i = .int .i64 k ∧ n = .int .i64 (256 - (entsSum (l.take k) : Int)) ∧ entsSum (l.take k) ≤ 256 ∧ Ext w wr) (fun _ i _ => l.length - (intOf i).toNat)
    case atStart => exact ⟨0, Nat.zero_le _, rfl, by simp [entsSum], by simp [entsSum], Ext.refl _⟩
    case round =>
      obtain ⟨k, hk, rfl, rfl, h256, hx⟩ := hrel
      have HX := hid_mk hx
      clear hx
      by_cases hlt : k < l.length
      · obtain ⟨b, o, rfl, hcl⟩ := HC.out (by omega)
        obtain ⟨pv, hA⟩ := hcl k hlt
        clear hcl
        have hA := hA.ext HX.out
        obtain ⟨a0, a1, a2, a3, a4, a5, a6, a7, es⟩ := hA
        obtain ⟨ea, ec, rfl, -, -, -⟩ := es
        have HN := hid_mk (entsSum_take_succ l k hlt)
        have HM := hid_mk (entsSum_take_le l (k + 1))
        generalize entsSum (l.take k) = n at *
        generalize l[k] = p at *
        obtain ⟨kind, lo, hi, op, cnt, s0, s1, ents⟩ := p
        dsimp only at a0 a1 a2 a3 a4 a5 a6 a7 HN
        generalize ents.length = m at *
        by_cases hm : m ≤ 256 - n
        · have hm1 : ¬ (256 - (n : Int) < (m : Int)) := by omega
          go_wp2
          go_roundw
          case rel => exact ⟨k + 1, by omega, by go_num, by rw [HN.out]; go_num, by rw [HN.out]; omega, HX.out.alloc _⟩
          case measure => simp [intOf]; omega
        · have hm1 : 256 - (n : Int) < (m : Int) := by omega
          go_wp2
          go_ret
          have h1 := HN.out
          have h2 := HM.out
          exact ⟨ret_int (by rw [HQ.out, if_neg (by omega), if_pos (by omega)]), HX.out.alloc _⟩
      · have e : k = l.length := by omega
        subst e
        rw [List.take_length] at h256
        rw [List.take_length]
        have HG := hid_mk (show tot = partsGo none l by rw [HQ.out, if_neg (by omega), if_neg (by omega)])
        clear HQ h256
        generalize entsSum l = tot' at *
        go_wp2
        go_loopw [34] (fun i wr => ∃ k : Nat, k ≤ l.length ∧ i = .int .i64 k ∧ partsGo none l = partsGo (prevPrt l k) (l.drop k) ∧ Ext w wr) (fun i _ => l.length - (intOf i).toNat)
        case atStart => exact ⟨0, Nat.zero_le _, rfl, by simp [prevPrt], HX.out⟩
        case round =>
          clear HX
          obtain ⟨k, hk, rfl, hf, hx⟩ := hrel
          have HF := hid_mk hf
          clear hf
          have HX := hid_mk hx
          clear hx
          by_cases hlt : k < l.length
          · have HD := hid_mk (partsGo_drop l k hlt (prevPrt l k))
            obtain ⟨b, o, rfl, hcl⟩ := HC.out (by omega)
            have HL := hid_mk hcl
            obtain ⟨pv, hA⟩ := hcl k hlt
            clear hcl
            obtain ⟨p, hp⟩ : ∃ p, p = l[k] := ⟨_, rfl⟩
            rw [← hp] at hA HD
            have HPk := hid_mk hp
            clear hp
            have HQ := hid_mk (partChk_eq' (prevPrt l k) p)
            have HGO := hid_mk (show partChk (prevPrt l k) p = 0 → partsGo none l = partsGo (prevPrt l (k + 1)) (l.drop (k + 1)) from fun h => by rw [HF.out, HD.out, if_neg (by simp [h]), HPk.out]; simp [prevPrt, hlt])
            have HBAD := hid_mk (show partChk (prevPrt l k) p ≠ 0 → tot = partChk (prevPrt l k) p from fun h => by rw [HG.out, HF.out, HD.out, if_pos h])
            clear HPk HF HD HG
            generalize partChk (prevPrt l k) p = res at *
            obtain ⟨kind, lo, hi, op, cnt, s0, s1, ents⟩ := p
            dsimp only at HQ
            replace hA := hA.ext HX.out
            have HE := hid_mk hA.es
            obtain ⟨a0, a1, a2, a3, a4, a5, a6, a7, _⟩ := hA
            obtain ⟨ea, ec, rfl, -⟩ := HE.out
            dsimp only at a0 a1 a2 a3 a4 a5 a6 a7 HE
            have hk1 : (k : Int) < (l.length : Int) := by omega
            have hk0 : (0 : Int) ≤ (k : Int) := by omega
            have hx0 := HX.out
            have hc0 := hx0.hc; have hl0 := hx0.hl; have he0 := hx0.hle; have hn0 := hx0.hne; replace hx0 := hid_mk hx0
            go_wp2_with fail
            refine (checkFields_any ⟨kind, lo, hi, op, cnt, s0, s1, ents⟩ _ _ (HE.out.ext ((Ext.refl _).alloc _))).mono ?_
            rintro e w1 ⟨rfl, hx1⟩
            have ax0 : w1.cell? ⟨wr.heap.size, 0, none⟩ = some (.int .i64 kind) := cell_ext hx1 (by go_simp)
            have ax1 : w1.cell? ⟨wr.heap.size, 1, none⟩ = some (.string lo) := cell_ext hx1 (by go_simp)
            have ax2 : w1.cell? ⟨wr.heap.size, 2, none⟩ = some (.string hi) := cell_ext hx1 (by go_simp)
            have ax3 : w1.cell? ⟨wr.heap.size, 3, none⟩ = some (.bool op) := cell_ext hx1 (by go_simp)
            have ax4 : w1.cell? ⟨wr.heap.size, 4, none⟩ = some (.int .i64 cnt) := cell_ext hx1 (by go_simp)
            have ax5 : w1.cell? ⟨wr.heap.size, 5, none⟩ = some (.int .u64 s0) := cell_ext hx1 (by go_simp)
            have ax6 : w1.cell? ⟨wr.heap.size, 6, none⟩ = some (.int .u64 s1) := cell_ext hx1 (by go_simp)
            have ax7 : w1.cell? ⟨wr.heap.size, 7, none⟩ = some (.slice ea ents.length ec) := cell_ext hx1 (by go_simp)
            clear a0 a1 a2 a3 a4 a5 a6 a7 hc0 hl0 he0 hn0
            replace hx1 := Ext.trans _ _ _ ((Ext.refl _).alloc _) hx1
            have hsz := cell_lt ax0
            have hc1 := hx1.hc; have hl1 := hx1.hl; have he1 := hx1.hle; have hn1 := hx1.hne; replace hx1 := hid_mk hx1
            by_cases hf : fieldsErr ⟨kind, lo, hi, op, cnt, s0, s1, ents⟩ = 0
            · have HFE := hid_mk hf
              rw [hf]
              clear hf
              go_wp2_with fail
              refine (sCheck_any _ _ _ _).mono ?_
              rintro e w2 ⟨rfl, hx2⟩
              replace ax0 := cell_ext hx2 ax0
              replace ax1 := cell_ext hx2 ax1
              replace ax2 := cell_ext hx2 ax2
              replace ax3 := cell_ext hx2 ax3
              replace ax4 := cell_ext hx2 ax4
              replace ax5 := cell_ext hx2 ax5
              replace ax6 := cell_ext hx2 ax6
              replace ax7 := cell_ext hx2 ax7
              replace hx2 := Ext.trans _ _ _ hx1.out hx2
              replace hsz := cell_lt ax0
              clear hc1 hl1 he1 hn1
              have hc2 := hx2.hc; have hl2 := hx2.hl; have he2 := hx2.hle; have hn2 := hx2.hne; replace hx2 := hid_mk hx2
              by_cases hz : rngCheck lo hi op = 0
              · have HZ := hid_mk hz
                rw [hz]
                clear hz
                rcases k with _ | m
                · have HTB := hid_mk (show tilesBad (prevPrt l 0) ⟨kind, lo, hi, op, cnt, s0, s1, ents⟩ = rngEmpty lo hi op by rw [rngEmpty_ok HZ.out]; simp [tilesBad, prevPrt])
                  have HPI := hid_mk (show rngEmpty lo hi op = false → True → True → (kind != 1) = true → res = partItems kind lo hi op ents from fun h1 h2 h3 h4 => by rw [HQ.out, if_neg (by simp [HFE.out]), if_neg (by simp [HZ.out]), if_neg (by rw [HTB.out]; simp [h1, h2, h3]), if_pos (by simpa using h4)])
                  have H117 := hid_mk (show rngEmpty lo hi op = false → True → True → (kind != 1) = false → (cnt < 0 ∨ 256 < cnt ∨ cnt = 0 ∧ ¬ (s0 = 0 ∧ s1 = 0)) → tot = 117 from fun h1 h2 h3 h4 h5 => by
                    have hr : res = 117 := by rw [HQ.out, if_neg (by simp [HFE.out]), if_neg (by simp [HZ.out]), if_neg (by rw [HTB.out]; simp [h1, h2, h3]), if_neg (by simpa using h4), if_pos ((tally_iff _).2 h5)]
                    rw [HBAD.out (by rw [hr]; simp), hr])
                  have H0 := hid_mk (show rngEmpty lo hi op = false → True → True → (kind != 1) = false → ¬ (cnt < 0 ∨ 256 < cnt ∨ cnt = 0 ∧ ¬ (s0 = 0 ∧ s1 = 0)) → partsGo none l = partsGo (prevPrt l (0 + 1)) (l.drop (0 + 1)) from fun h1 h2 h3 h4 h5 => by
                    have hr : res = 0 := by rw [HQ.out, if_neg (by simp [HFE.out]), if_neg (by simp [HZ.out]), if_neg (by rw [HTB.out]; simp [h1, h2, h3]), if_neg (by simpa using h4), if_neg (fun h => h5 ((tally_iff _).1 h))]
                    exact HGO.out hr)
                  have H115 := hid_mk (show (rngEmpty lo hi op = true ∨ False ∨ False) → tot = 115 from fun h1 => by
                    have hr : res = 115 := by
                      rw [HQ.out, if_neg (by simp [HFE.out]), if_neg (by simp [HZ.out]), if_pos (by rw [HTB.out]; rcases h1 with h | h | h <;> simp_all only [Bool.true_or, Bool.or_true])]
                    rw [HBAD.out (by rw [hr]; simp), hr])
                  go_wp2_with fail
                  refine wp_region_held_below (fun _ => true) (.quiet 0 (.quiet 1 (.alt 2 (.quiet 3 (.quiet 4 (.quiet 5 (.quiet 6 (.quiet 7 (.quiet 8 (.quiet 9 (.quiet 10 (.quiet 11 (.quiet 12 (.quiet 13 (.quiet 14 (.quiet 15 (.quiet 16 (.quiet 17 (.quiet 18 (.quiet 19 (.quiet 20 (.quiet 21 (.quiet 22 (.quiet 23 (.quiet 24 (.quiet 25 (.quiet 26 (.quiet 27 (.quiet 28 .done)))))))))))))))))))))))))) .stop))) (by kernel_rfl) (by kernel_rfl) (by intro c a w d v h; cases d <;> exact h) (fun ops HO => ?_)
                  refine plan_read _ (hi_of HO rfl) rfl (fun w' hE => by have hcE := (Ext.trans _ _ _ (by (repeat (first | exact hx2.out | apply Ext.drew | apply Ext.alloc))) hE).hc; (first | replace hE := Ext.unD hE | skip); have hcF := hE.hc; clear hE; go_simp; rfl) ?_
                  simp only [Act.put, List.setIfInBounds_toArray, List.set_cons_succ, List.set_cons_zero]
                  refine plan_read _ (hi_of HO rfl) rfl (fun w' hE => by have hcE := (Ext.trans _ _ _ (by (repeat (first | exact hx2.out | apply Ext.drew | apply Ext.alloc))) hE).hc; (first | replace hE := Ext.unD hE | skip); have hcF := hE.hc; clear hE; go_simp; rfl) ?_
                  simp only [Act.put, List.setIfInBounds_toArray, List.set_cons_succ, List.set_cons_zero]
                  refine plan_call1 en_sEmpty (hi_of HO rfl) rfl rfl (by go_simp; rfl) (by exact (sEmpty_any _ _ _ _)) ?_
                  rintro e v101 ⟨rfl, hx101⟩
                  refine ⟨_, rfl, fun _ => hx101, ?_⟩
                  have hy101 := hid_mk (by first | (with_reducible exact Ext.unD hx101) | exact hx101 : Ext _ v101)
                  replace hx101 := Ext.trans _ _ _ (by (repeat (first | exact hx2.out | apply Ext.drew | apply Ext.alloc))) hx101
                  clear hc2 hl2 he2 hn2
                  have hc101 := hx101.hc; have hl101 := hx101.hl; have he101 := hx101.hle; have hn101 := hx101.hne; replace hx101 := hid_mk hx101
                  simp only [Act.put, List.setIfInBounds_toArray, List.set_cons_succ, List.set_cons_zero]
                  replace ax0 := cell_ext hy101.out ax0
                  replace ax1 := cell_ext hy101.out ax1
                  replace ax2 := cell_ext hy101.out ax2
                  replace ax3 := cell_ext hy101.out ax3
                  replace ax4 := cell_ext hy101.out ax4
                  replace ax5 := cell_ext hy101.out ax5
                  replace ax6 := cell_ext hy101.out ax6
                  replace ax7 := cell_ext hy101.out ax7
                  have hsz101 := cell_lt ax0
                  refine plan_boolc _ (hi_of HO rfl) rfl (fun w' hE => by have hcE := (Ext.trans _ _ _ (by (repeat (first | exact hx101.out | apply Ext.drew | apply Ext.alloc))) hE).hc; (first | replace hE := Ext.unD hE | skip); have hcF := hE.hc; clear hE; go_simp; rfl) (by rfl) ?hF102 ?hT102
                  case' hF102 =>
                    intro hb102
                    simp only [Act.put, List.setIfInBounds_toArray, List.set_cons_succ, List.set_cons_zero]
                    refine plan_read _ (hi_of HO rfl) (by rw [HO.out]; rfl) (fun w' hE => by have hcE := (Ext.trans _ _ _ (by (repeat (first | exact hx101.out | apply Ext.drew | apply Ext.alloc))) hE).hc; (first | replace hE := Ext.unD hE | skip); have hcF := hE.hc; clear hE; go_simp; rfl) ?_
                    simp only [Act.put, List.setIfInBounds_toArray, List.set_cons_succ, List.set_cons_zero]
                    refine plan_read _ (hi_of HO rfl) (by rw [HO.out]; rfl) (fun w' hE => by have hcE := (Ext.trans _ _ _ (by (repeat (first | exact hx101.out | apply Ext.drew | apply Ext.alloc))) hE).hc; (first | replace hE := Ext.unD hE | skip); have hcF := hE.hc; clear hE; go_simp; rfl) ?_
                    simp only [Act.put, List.setIfInBounds_toArray, List.set_cons_succ, List.set_cons_zero]
                    refine plan_read _ (hi_of HO rfl) (by rw [HO.out]; rfl) (fun w' hE => by have hcE := (Ext.trans _ _ _ (by (repeat (first | exact hx101.out | apply Ext.drew | apply Ext.alloc))) hE).hc; (first | replace hE := Ext.unD hE | skip); have hcF := hE.hc; clear hE; go_simp; rfl) ?_
                    simp only [Act.put, List.setIfInBounds_toArray, List.set_cons_succ, List.set_cons_zero]
                    refine plan_skip (hi_of HO rfl) (by rw [HO.out]; rfl) ?_
                    simp only [Act.put, List.setIfInBounds_toArray, List.set_cons_succ, List.set_cons_zero]
                    refine plan_skip (hi_of HO rfl) (by rw [HO.out]; rfl) ?_
                    simp only [Act.put, List.setIfInBounds_toArray, List.set_cons_succ, List.set_cons_zero]
                    refine plan_skip (hi_of HO rfl) (by rw [HO.out]; rfl) ?_
                    simp only [Act.put, List.setIfInBounds_toArray, List.set_cons_succ, List.set_cons_zero]
                    refine plan_skip (hi_of HO rfl) (by rw [HO.out]; rfl) ?_
                    simp only [Act.put, List.setIfInBounds_toArray, List.set_cons_succ, List.set_cons_zero]
                    refine plan_skip (hi_of HO rfl) (by rw [HO.out]; rfl) ?_
                    simp only [Act.put, List.setIfInBounds_toArray, List.set_cons_succ, List.set_cons_zero]
                    refine plan_skip (hi_of HO rfl) (by rw [HO.out]; rfl) ?_
                    simp only [Act.put, List.setIfInBounds_toArray, List.set_cons_succ, List.set_cons_zero]
                    refine plan_skip (hi_of HO rfl) (by rw [HO.out]; rfl) ?_
                    simp only [Act.put, List.setIfInBounds_toArray, List.set_cons_succ, List.set_cons_zero]
                    refine plan_skip (hi_of HO rfl) (by rw [HO.out]; rfl) ?_
                    simp only [Act.put, List.setIfInBounds_toArray, List.set_cons_succ, List.set_cons_zero]
                    refine plan_skip (hi_of HO rfl) (by rw [HO.out]; rfl) ?_
                    simp only [Act.put, List.setIfInBounds_toArray, List.set_cons_succ, List.set_cons_zero]
                    refine plan_skip (hi_of HO rfl) (by rw [HO.out]; rfl) ?_
                    simp only [Act.put, List.setIfInBounds_toArray, List.set_cons_succ, List.set_cons_zero]
                    refine plan_skip (hi_of HO rfl) (by rw [HO.out]; rfl) ?_
                    simp only [Act.put, List.setIfInBounds_toArray, List.set_cons_succ, List.set_cons_zero]
                    refine plan_skip (hi_of HO rfl) (by rw [HO.out]; rfl) ?_
                    simp only [Act.put, List.setIfInBounds_toArray, List.set_cons_succ, List.set_cons_zero]
                    refine plan_skip (hi_of HO rfl) (by rw [HO.out]; rfl) ?_
                    simp only [Act.put, List.setIfInBounds_toArray, List.set_cons_succ, List.set_cons_zero]
                    refine plan_skip (hi_of HO rfl) (by rw [HO.out]; rfl) ?_
                    simp only [Act.put, List.setIfInBounds_toArray, List.set_cons_succ, List.set_cons_zero]
                    refine plan_skip (hi_of HO rfl) (by rw [HO.out]; rfl) ?_
                    simp only [Act.put, List.setIfInBounds_toArray, List.set_cons_succ, List.set_cons_zero]
                    refine plan_skip (hi_of HO rfl) (by rw [HO.out]; rfl) ?_
                    simp only [Act.put, List.setIfInBounds_toArray, List.set_cons_succ, List.set_cons_zero]
                    refine plan_skip (hi_of HO rfl) (by rw [HO.out]; rfl) ?_
                    simp only [Act.put, List.setIfInBounds_toArray, List.set_cons_succ, List.set_cons_zero]
                    refine plan_skip (hi_of HO rfl) (by rw [HO.out]; rfl) ?_
                    simp only [Act.put, List.setIfInBounds_toArray, List.set_cons_succ, List.set_cons_zero]
                    refine plan_skip (hi_of HO rfl) (by rw [HO.out]; rfl) ?_
                    simp only [Act.put, List.setIfInBounds_toArray, List.set_cons_succ, List.set_cons_zero]
                    refine plan_skip (hi_of HO rfl) (by rw [HO.out]; rfl) ?_
                    simp only [Act.put, List.setIfInBounds_toArray, List.set_cons_succ, List.set_cons_zero]
                    refine plan_read _ (hi_of HO rfl) (by rw [HO.out]; rfl) (fun w' hE => by have hcE := (Ext.trans _ _ _ (by (repeat (first | exact hx101.out | apply Ext.drew | apply Ext.alloc))) hE).hc; (first | replace hE := Ext.unD hE | skip); have hcF := hE.hc; clear hE; go_simp; rfl) ?_
                    simp only [Act.put, List.setIfInBounds_toArray, List.set_cons_succ, List.set_cons_zero]
                    refine plan_read _ (hi_of HO rfl) rfl (fun w' hE => by have hcE := (Ext.trans _ _ _ (by (repeat (first | exact hx101.out | apply Ext.drew | apply Ext.alloc))) hE).hc; (first | replace hE := Ext.unD hE | skip); have hcF := hE.hc; clear hE; go_simp; rfl) ?_
                    simp only [Act.put, List.setIfInBounds_toArray, List.set_cons_succ, List.set_cons_zero]
                    refine plan_done ?fin103
                  case' hT102 =>
                    intro hb102
                    simp only [Act.put, List.setIfInBounds_toArray, List.set_cons_succ, List.set_cons_zero]
                    refine plan_skip (hi_of HO rfl) (by rw [HO.out]; rfl) ?_
                    simp only [Act.put, List.setIfInBounds_toArray, List.set_cons_succ, List.set_cons_zero]
                    refine plan_skip (hi_of HO rfl) (by rw [HO.out]; rfl) ?_
                    simp only [Act.put, List.setIfInBounds_toArray, List.set_cons_succ, List.set_cons_zero]
                    refine plan_skip (hi_of HO rfl) (by rw [HO.out]; rfl) ?_
                    simp only [Act.put, List.setIfInBounds_toArray, List.set_cons_succ, List.set_cons_zero]
                    refine plan_skip (hi_of HO rfl) (by rw [HO.out]; rfl) ?_
                    simp only [Act.put, List.setIfInBounds_toArray, List.set_cons_succ, List.set_cons_zero]
                    refine plan_skip (hi_of HO rfl) (by rw [HO.out]; rfl) ?_
                    simp only [Act.put, List.setIfInBounds_toArray, List.set_cons_succ, List.set_cons_zero]
                    refine plan_skip (hi_of HO rfl) (by rw [HO.out]; rfl) ?_
                    simp only [Act.put, List.setIfInBounds_toArray, List.set_cons_succ, List.set_cons_zero]
                    refine plan_skip (hi_of HO rfl) (by rw [HO.out]; rfl) ?_
                    simp only [Act.put, List.setIfInBounds_toArray, List.set_cons_succ, List.set_cons_zero]
                    refine plan_skip (hi_of HO rfl) (by rw [HO.out]; rfl) ?_
                    simp only [Act.put, List.setIfInBounds_toArray, List.set_cons_succ, List.set_cons_zero]
                    refine plan_skip (hi_of HO rfl) (by rw [HO.out]; rfl) ?_
                    simp only [Act.put, List.setIfInBounds_toArray, List.set_cons_succ, List.set_cons_zero]
                    refine plan_skip (hi_of HO rfl) (by rw [HO.out]; rfl) ?_
                    simp only [Act.put, List.setIfInBounds_toArray, List.set_cons_succ, List.set_cons_zero]
                    refine plan_skip (hi_of HO rfl) (by rw [HO.out]; rfl) ?_
                    simp only [Act.put, List.setIfInBounds_toArray, List.set_cons_succ, List.set_cons_zero]
                    refine plan_skip (hi_of HO rfl) (by rw [HO.out]; rfl) ?_
                    simp only [Act.put, List.setIfInBounds_toArray, List.set_cons_succ, List.set_cons_zero]
                    refine plan_skip (hi_of HO rfl) (by rw [HO.out]; rfl) ?_
                    simp only [Act.put, List.setIfInBounds_toArray, List.set_cons_succ, List.set_cons_zero]
                    refine plan_skip (hi_of HO rfl) (by rw [HO.out]; rfl) ?_
                    simp only [Act.put, List.setIfInBounds_toArray, List.set_cons_succ, List.set_cons_zero]
                    refine plan_skip (hi_of HO rfl) (by rw [HO.out]; rfl) ?_
                    simp only [Act.put, List.setIfInBounds_toArray, List.set_cons_succ, List.set_cons_zero]
                    refine plan_skip (hi_of HO rfl) (by rw [HO.out]; rfl) ?_
                    simp only [Act.put, List.setIfInBounds_toArray, List.set_cons_succ, List.set_cons_zero]
                    refine plan_skip (hi_of HO rfl) (by rw [HO.out]; rfl) ?_
                    simp only [Act.put, List.setIfInBounds_toArray, List.set_cons_succ, List.set_cons_zero]
                    refine plan_skip (hi_of HO rfl) (by rw [HO.out]; rfl) ?_
                    simp only [Act.put, List.setIfInBounds_toArray, List.set_cons_succ, List.set_cons_zero]
                    refine plan_skip (hi_of HO rfl) (by rw [HO.out]; rfl) ?_
                    simp only [Act.put, List.setIfInBounds_toArray, List.set_cons_succ, List.set_cons_zero]
                    refine plan_skip (hi_of HO rfl) (by rw [HO.out]; rfl) ?_
                    simp only [Act.put, List.setIfInBounds_toArray, List.set_cons_succ, List.set_cons_zero]
                    refine plan_skip (hi_of HO rfl) (by rw [HO.out]; rfl) ?_
                    simp only [Act.put, List.setIfInBounds_toArray, List.set_cons_succ, List.set_cons_zero]
                    refine plan_skip (hi_of HO rfl) (by rw [HO.out]; rfl) ?_
                    simp only [Act.put, List.setIfInBounds_toArray, List.set_cons_succ, List.set_cons_zero]
                    refine plan_skip (hi_of HO rfl) (by rw [HO.out]; rfl) ?_
                    simp only [Act.put, List.setIfInBounds_toArray, List.set_cons_succ, List.set_cons_zero]
                    refine plan_skip (hi_of HO rfl) (by rw [HO.out]; rfl) ?_
                    simp only [Act.put, List.setIfInBounds_toArray, List.set_cons_succ, List.set_cons_zero]
                    refine plan_read _ (hi_of HO rfl) rfl (fun w' hE => by have hcE := (Ext.trans _ _ _ (by (repeat (first | exact hx101.out | apply Ext.drew | apply Ext.alloc))) hE).hc; (first | replace hE := Ext.unD hE | skip); have hcF := hE.hc; clear hE; go_simp; rfl) ?_
                    simp only [Act.put, List.setIfInBounds_toArray, List.set_cons_succ, List.set_cons_zero]
                    refine plan_done ?fin104
                  all_goals go_wp2_with fail
                  rotate_left 1
                  · refine (checkEntries_any _ _ _ _ _ _ _ _ _ _ (HE.out.ext (by assumption : Hid (Ext wr _)).out)).mono ?_
                    rintro e w4 ⟨rfl, hx4⟩
                    replace hx4 := Ext.trans wr _ _ (by assumption : Hid (Ext wr _)).out hx4
                    clear ax0 ax1 ax2 ax3 ax4 ax5 ax6 ax7
                    have hc4 := hx4.hc; have hl4 := hx4.hl; have he4 := hx4.hle; have hn4 := hx4.hne; replace hx4 := hid_mk hx4
                    have hr : res = partItems kind lo hi op ents := by
                      apply HPI.out <;> first | trivial | assumption
                    rw [← hr]
                    clear hr
                    by_cases hres : res = 0
                    · have HR := hid_mk hres
                      rw [hres]
                      clear hres
                      go_wp2
                      go_roundw
                      case rel => exact ⟨_, by omega, by go_num, HGO.out HR.out, Ext.trans _ _ _ HX.out hx4.out⟩
                      case measure => simp [intOf]; omega
                    · go_wp2
                      go_ret
                      exact ⟨ret_int (HBAD.out hres).symm, Ext.trans _ _ _ HX.out hx4.out⟩
                  all_goals first
                    | (go_ret
                       refine ⟨ret_int ?_, Ext.trans _ _ _ HX.out (by assumption : Hid (Ext wr _)).out⟩
                       symm
                       first
                         | (apply H117.out
                            · first | trivial | assumption
                            · first | trivial | assumption
                            · first | trivial | assumption
                            · assumption
                            · first | omega | (rename_i h; simp at h; omega))
                         | (apply H115.out
                            first
                              | exact Or.inl (by assumption)
                              | exact Or.inr (Or.inl (by assumption))
                              | exact Or.inr (Or.inr (by assumption))))
                    | (go_roundw
                       case rel =>
                         refine ⟨0 + 1, ?_, ?_, ?_, Ext.trans _ _ _ HX.out (by assumption : Hid (Ext wr _)).out⟩
                         rotate_left 2
                         · apply H0.out
                           · first | trivial | assumption
                           · first | trivial | assumption
                           · first | trivial | assumption
                           · assumption
                           · first | omega | (rename_i h; simp at h; omega)
                         · omega
                         · go_num
                       case measure => simp [intOf]; omega)
                · obtain ⟨qv, hB⟩ := HL.out m (by omega)
                  replace hB := hB.ext (Ext.trans _ _ _ HX.out hx2.out)
                  have hb2 := hB.c2
                  have hb3 := hB.c3
                  have hbB := cell_lt hb2
                  clear hB
                  have hlt1 : (m : Int) + 1 < (l.length : Int) := by omega
                  have hlt2 : (0 : Int) ≤ (m : Int) + 1 := by omega
                  have hlt3 : (m : Int) < (l.length : Int) := by omega
                  have hlt4 : IntKind.i64.wrap (m : Int) = m := wrapN m (by omega)
                  have HTB := hid_mk (show tilesBad (prevPrt l (m + 1)) ⟨kind, lo, hi, op, cnt, s0, s1, ents⟩ = (rngEmpty lo hi op || (l[m].op || Op.bytesLess lo.toList l[m].hi.toList)) by rw [rngEmpty_ok HZ.out]; simp [tilesBad, prevPrt, show m < l.length by omega])
                  have HPI := hid_mk (show rngEmpty lo hi op = false → l[m].op = false → Op.bytesLess lo.toList l[m].hi.toList = false → (kind != 1) = true → res = partItems kind lo hi op ents from fun h1 h2 h3 h4 => by rw [HQ.out, if_neg (by simp [HFE.out]), if_neg (by simp [HZ.out]), if_neg (by rw [HTB.out]; simp [h1, h2, h3]), if_pos (by simpa using h4)])
                  have H117 := hid_mk (show rngEmpty lo hi op = false → l[m].op = false → Op.bytesLess lo.toList l[m].hi.toList = false → (kind != 1) = false → (cnt < 0 ∨ 256 < cnt ∨ cnt = 0 ∧ ¬ (s0 = 0 ∧ s1 = 0)) → tot = 117 from fun h1 h2 h3 h4 h5 => by
                    have hr : res = 117 := by rw [HQ.out, if_neg (by simp [HFE.out]), if_neg (by simp [HZ.out]), if_neg (by rw [HTB.out]; simp [h1, h2, h3]), if_neg (by simpa using h4), if_pos ((tally_iff _).2 h5)]
                    rw [HBAD.out (by rw [hr]; simp), hr])
                  have H0 := hid_mk (show rngEmpty lo hi op = false → l[m].op = false → Op.bytesLess lo.toList l[m].hi.toList = false → (kind != 1) = false → ¬ (cnt < 0 ∨ 256 < cnt ∨ cnt = 0 ∧ ¬ (s0 = 0 ∧ s1 = 0)) → partsGo none l = partsGo (prevPrt l ((m + 1) + 1)) (l.drop ((m + 1) + 1)) from fun h1 h2 h3 h4 h5 => by
                    have hr : res = 0 := by rw [HQ.out, if_neg (by simp [HFE.out]), if_neg (by simp [HZ.out]), if_neg (by rw [HTB.out]; simp [h1, h2, h3]), if_neg (by simpa using h4), if_neg (fun h => h5 ((tally_iff _).1 h))]
                    exact HGO.out hr)
                  have H115 := hid_mk (show (rngEmpty lo hi op = true ∨ l[m].op = true ∨ Op.bytesLess lo.toList l[m].hi.toList = true) → tot = 115 from fun h1 => by
                    have hr : res = 115 := by
                      rw [HQ.out, if_neg (by simp [HFE.out]), if_neg (by simp [HZ.out]), if_pos (by rw [HTB.out]; rcases h1 with h | h | h <;> simp_all only [Bool.true_or, Bool.or_true])]
                    rw [HBAD.out (by rw [hr]; simp), hr])
                  generalize l[m] = q at *
                  go_wp2_with fail
                  refine wp_region_held_below (fun _ => true) (.quiet 0 (.quiet 1 (.alt 2 (.quiet 3 (.quiet 4 (.quiet 5 (.quiet 6 (.quiet 7 (.quiet 8 (.quiet 9 (.quiet 10 (.quiet 11 (.quiet 12 (.quiet 13 (.quiet 14 (.quiet 15 (.quiet 16 (.quiet 17 (.quiet 18 (.quiet 19 (.quiet 20 (.quiet 21 (.quiet 22 (.quiet 23 (.quiet 24 (.quiet 25 (.quiet 26 (.quiet 27 (.quiet 28 .done)))))))))))))))))))))))))) .stop))) (by kernel_rfl) (by kernel_rfl) (by intro c a w d v h; cases d <;> exact h) (fun ops HO => ?_)
                  refine plan_read _ (hi_of HO rfl) rfl (fun w' hE => by have hcE := (Ext.trans _ _ _ (by (repeat (first | exact hx2.out | apply Ext.drew | apply Ext.alloc))) hE).hc; (first | replace hE := Ext.unD hE | skip); have hcF := hE.hc; clear hE; go_simp; rfl) ?_
                  simp only [Act.put, List.setIfInBounds_toArray, List.set_cons_succ, List.set_cons_zero]
                  refine plan_read _ (hi_of HO rfl) rfl (fun w' hE => by have hcE := (Ext.trans _ _ _ (by (repeat (first | exact hx2.out | apply Ext.drew | apply Ext.alloc))) hE).hc; (first | replace hE := Ext.unD hE | skip); have hcF := hE.hc; clear hE; go_simp; rfl) ?_
                  simp only [Act.put, List.setIfInBounds_toArray, List.set_cons_succ, List.set_cons_zero]
                  refine plan_call1 en_sEmpty (hi_of HO rfl) rfl rfl (by go_simp; rfl) (by exact (sEmpty_any _ _ _ _)) ?_
                  rintro e v105 ⟨rfl, hx105⟩
                  refine ⟨_, rfl, fun _ => hx105, ?_⟩
                  have hy105 := hid_mk (by first | (with_reducible exact Ext.unD hx105) | exact hx105 : Ext _ v105)
                  replace hx105 := Ext.trans _ _ _ (by (repeat (first | exact hx2.out | apply Ext.drew | apply Ext.alloc))) hx105
                  clear hc2 hl2 he2 hn2
                  have hc105 := hx105.hc; have hl105 := hx105.hl; have he105 := hx105.hle; have hn105 := hx105.hne; replace hx105 := hid_mk hx105
                  simp only [Act.put, List.setIfInBounds_toArray, List.set_cons_succ, List.set_cons_zero]
                  replace ax0 := cell_ext hy105.out ax0
                  replace ax1 := cell_ext hy105.out ax1
                  replace ax2 := cell_ext hy105.out ax2
                  replace ax3 := cell_ext hy105.out ax3
                  replace ax4 := cell_ext hy105.out ax4
                  replace ax5 := cell_ext hy105.out ax5
                  replace ax6 := cell_ext hy105.out ax6
                  replace ax7 := cell_ext hy105.out ax7
                  replace hb2 := cell_ext hy105.out hb2
                  replace hb3 := cell_ext hy105.out hb3
                  have hsz105 := cell_lt ax0
                  have hbs105 := cell_lt hb2
                  refine plan_boolc _ (hi_of HO rfl) rfl (fun w' hE => by have hcE := (Ext.trans _ _ _ (by (repeat (first | exact hx105.out | apply Ext.drew | apply Ext.alloc))) hE).hc; (first | replace hE := Ext.unD hE | skip); have hcF := hE.hc; clear hE; go_simp; rfl) (by rfl) ?hF106 ?hT106
                  case' hF106 =>
                    intro hb106
                    simp only [Act.put, List.setIfInBounds_toArray, List.set_cons_succ, List.set_cons_zero]
                    refine plan_read _ (hi_of HO rfl) (by rw [HO.out]; rfl) (fun w' hE => by have hcE := (Ext.trans _ _ _ (by (repeat (first | exact hx105.out | apply Ext.drew | apply Ext.alloc))) hE).hc; (first | replace hE := Ext.unD hE | skip); have hcF := hE.hc; clear hE; go_simp; rfl) ?_
                    simp only [Act.put, List.setIfInBounds_toArray, List.set_cons_succ, List.set_cons_zero]
                    refine plan_read _ (hi_of HO rfl) (by rw [HO.out]; rfl) (fun w' hE => by have hcE := (Ext.trans _ _ _ (by (repeat (first | exact hx105.out | apply Ext.drew | apply Ext.alloc))) hE).hc; (first | replace hE := Ext.unD hE | skip); have hcF := hE.hc; clear hE; go_simp; rfl) ?_
                    simp only [Act.put, List.setIfInBounds_toArray, List.set_cons_succ, List.set_cons_zero]
                    refine plan_read _ (hi_of HO rfl) (by rw [HO.out]; rfl) (fun w' hE => by have hcE := (Ext.trans _ _ _ (by (repeat (first | exact hx105.out | apply Ext.drew | apply Ext.alloc))) hE).hc; (first | replace hE := Ext.unD hE | skip); have hcF := hE.hc; clear hE; go_simp; rfl) ?_
                    simp only [Act.put, List.setIfInBounds_toArray, List.set_cons_succ, List.set_cons_zero]
                    refine plan_read _ (hi_of HO rfl) (by rw [HO.out]; rfl) (fun w' hE => by have hcE := (Ext.trans _ _ _ (by (repeat (first | exact hx105.out | apply Ext.drew | apply Ext.alloc))) hE).hc; (first | replace hE := Ext.unD hE | skip); have hcF := hE.hc; clear hE; go_simp; rfl) ?_
                    simp only [Act.put, List.setIfInBounds_toArray, List.set_cons_succ, List.set_cons_zero]
                    refine plan_read _ (hi_of HO rfl) (by rw [HO.out]; rfl) (fun w' hE => by have hcE := (Ext.trans _ _ _ (by (repeat (first | exact hx105.out | apply Ext.drew | apply Ext.alloc))) hE).hc; (first | replace hE := Ext.unD hE | skip); have hcF := hE.hc; clear hE; go_simp; rfl) ?_
                    simp only [Act.put, List.setIfInBounds_toArray, List.set_cons_succ, List.set_cons_zero]
                    refine plan_read _ (hi_of HO rfl) (by rw [HO.out]; rfl) (fun w' hE => by have hcE := (Ext.trans _ _ _ (by (repeat (first | exact hx105.out | apply Ext.drew | apply Ext.alloc))) hE).hc; (first | replace hE := Ext.unD hE | skip); have hcF := hE.hc; clear hE; go_simp; rfl) ?_
                    simp only [Act.put, List.setIfInBounds_toArray, List.set_cons_succ, List.set_cons_zero]
                    refine plan_read _ (hi_of HO rfl) (by rw [HO.out]; rfl) (fun w' hE => by have hcE := (Ext.trans _ _ _ (by (repeat (first | exact hx105.out | apply Ext.drew | apply Ext.alloc))) hE).hc; (first | replace hE := Ext.unD hE | skip); have hcF := hE.hc; clear hE; go_simp; rfl) ?_
                    simp only [Act.put, List.setIfInBounds_toArray, List.set_cons_succ, List.set_cons_zero]
                    refine plan_read _ (hi_of HO rfl) (by rw [HO.out]; rfl) (fun w' hE => by have hcE := (Ext.trans _ _ _ (by (repeat (first | exact hx105.out | apply Ext.drew | apply Ext.alloc))) hE).hc; (first | replace hE := Ext.unD hE | skip); have hcF := hE.hc; clear hE; go_simp; rfl) ?_
                    simp only [Act.put, List.setIfInBounds_toArray, List.set_cons_succ, List.set_cons_zero]
                    refine plan_read _ (hi_of HO rfl) (by rw [HO.out]; rfl) (fun w' hE => by have hcE := (Ext.trans _ _ _ (by (repeat (first | exact hx105.out | apply Ext.drew | apply Ext.alloc))) hE).hc; (first | replace hE := Ext.unD hE | skip); have hcF := hE.hc; clear hE; go_simp; rfl) ?_
                    simp only [Act.put, List.setIfInBounds_toArray, List.set_cons_succ, List.set_cons_zero]
                    refine plan_read _ (hi_of HO rfl) (by rw [HO.out]; rfl) (fun w' hE => by have hcE := (Ext.trans _ _ _ (by (repeat (first | exact hx105.out | apply Ext.drew | apply Ext.alloc))) hE).hc; (first | replace hE := Ext.unD hE | skip); have hcF := hE.hc; clear hE; go_simp; rfl) ?_
                    simp only [Act.put, List.setIfInBounds_toArray, List.set_cons_succ, List.set_cons_zero]
                    refine plan_boolc _ (hi_of HO rfl) (by rw [HO.out]; rfl) (fun w' hE => by have hcE := (Ext.trans _ _ _ (by (repeat (first | exact hx105.out | apply Ext.drew | apply Ext.alloc))) hE).hc; (first | replace hE := Ext.unD hE | skip); have hcF := hE.hc; clear hE; go_simp; rfl) (by rfl) ?hF107 ?hT107
                    case' hF107 =>
                      intro hb107
                      simp only [Act.put, List.setIfInBounds_toArray, List.set_cons_succ, List.set_cons_zero]
                      refine plan_read _ (hi_of HO rfl) (by rw [HO.out]; rfl) (fun w' hE => by have hcE := (Ext.trans _ _ _ (by (repeat (first | exact hx105.out | apply Ext.drew | apply Ext.alloc))) hE).hc; (first | replace hE := Ext.unD hE | skip); have hcF := hE.hc; clear hE; go_simp; rfl) ?_
                      simp only [Act.put, List.setIfInBounds_toArray, List.set_cons_succ, List.set_cons_zero]
                      refine plan_read _ (hi_of HO rfl) (by rw [HO.out]; rfl) (fun w' hE => by have hcE := (Ext.trans _ _ _ (by (repeat (first | exact hx105.out | apply Ext.drew | apply Ext.alloc))) hE).hc; (first | replace hE := Ext.unD hE | skip); have hcF := hE.hc; clear hE; go_simp; rfl) ?_
                      simp only [Act.put, List.setIfInBounds_toArray, List.set_cons_succ, List.set_cons_zero]
                      refine plan_read _ (hi_of HO rfl) (by rw [HO.out]; rfl) (fun w' hE => by have hcE := (Ext.trans _ _ _ (by (repeat (first | exact hx105.out | apply Ext.drew | apply Ext.alloc))) hE).hc; (first | replace hE := Ext.unD hE | skip); have hcF := hE.hc; clear hE; go_simp; rfl) ?_
                      simp only [Act.put, List.setIfInBounds_toArray, List.set_cons_succ, List.set_cons_zero]
                      refine plan_read _ (hi_of HO rfl) (by rw [HO.out]; rfl) (fun w' hE => by have hcE := (Ext.trans _ _ _ (by (repeat (first | exact hx105.out | apply Ext.drew | apply Ext.alloc))) hE).hc; (first | replace hE := Ext.unD hE | skip); have hcF := hE.hc; clear hE; go_simp; rfl) ?_
                      simp only [Act.put, List.setIfInBounds_toArray, List.set_cons_succ, List.set_cons_zero]
                      refine plan_read _ (hi_of HO rfl) (by rw [HO.out]; rfl) (fun w' hE => by have hcE := (Ext.trans _ _ _ (by (repeat (first | exact hx105.out | apply Ext.drew | apply Ext.alloc))) hE).hc; (first | replace hE := Ext.unD hE | skip); have hcF := hE.hc; clear hE; go_simp; rfl) ?_
                      simp only [Act.put, List.setIfInBounds_toArray, List.set_cons_succ, List.set_cons_zero]
                      refine plan_read _ (hi_of HO rfl) (by rw [HO.out]; rfl) (fun w' hE => by have hcE := (Ext.trans _ _ _ (by (repeat (first | exact hx105.out | apply Ext.drew | apply Ext.alloc))) hE).hc; (first | replace hE := Ext.unD hE | skip); have hcF := hE.hc; clear hE; go_simp; rfl) ?_
                      simp only [Act.put, List.setIfInBounds_toArray, List.set_cons_succ, List.set_cons_zero]
                      refine plan_read _ (hi_of HO rfl) (by rw [HO.out]; rfl) (fun w' hE => by have hcE := (Ext.trans _ _ _ (by (repeat (first | exact hx105.out | apply Ext.drew | apply Ext.alloc))) hE).hc; (first | replace hE := Ext.unD hE | skip); have hcF := hE.hc; clear hE; go_simp; rfl) ?_
                      simp only [Act.put, List.setIfInBounds_toArray, List.set_cons_succ, List.set_cons_zero]
                      refine plan_read _ (hi_of HO rfl) (by rw [HO.out]; rfl) (fun w' hE => by have hcE := (Ext.trans _ _ _ (by (repeat (first | exact hx105.out | apply Ext.drew | apply Ext.alloc))) hE).hc; (first | replace hE := Ext.unD hE | skip); have hcF := hE.hc; clear hE; go_simp; rfl) ?_
                      simp only [Act.put, List.setIfInBounds_toArray, List.set_cons_succ, List.set_cons_zero]
                      refine plan_read _ (hi_of HO rfl) (by rw [HO.out]; rfl) (fun w' hE => by have hcE := (Ext.trans _ _ _ (by (repeat (first | exact hx105.out | apply Ext.drew | apply Ext.alloc))) hE).hc; (first | replace hE := Ext.unD hE | skip); have hcF := hE.hc; clear hE; go_simp; rfl) ?_
                      simp only [Act.put, List.setIfInBounds_toArray, List.set_cons_succ, List.set_cons_zero]
                      refine plan_read _ (hi_of HO rfl) (by rw [HO.out]; rfl) (fun w' hE => by have hcE := (Ext.trans _ _ _ (by (repeat (first | exact hx105.out | apply Ext.drew | apply Ext.alloc))) hE).hc; (first | replace hE := Ext.unD hE | skip); have hcF := hE.hc; clear hE; go_simp; rfl) ?_
                      simp only [Act.put, List.setIfInBounds_toArray, List.set_cons_succ, List.set_cons_zero]
                      refine plan_read _ (hi_of HO rfl) (by rw [HO.out]; rfl) (fun w' hE => by have hcE := (Ext.trans _ _ _ (by (repeat (first | exact hx105.out | apply Ext.drew | apply Ext.alloc))) hE).hc; (first | replace hE := Ext.unD hE | skip); have hcF := hE.hc; clear hE; go_simp; rfl) ?_
                      simp only [Act.put, List.setIfInBounds_toArray, List.set_cons_succ, List.set_cons_zero]
                      refine plan_read _ (hi_of HO rfl) (by rw [HO.out]; rfl) (fun w' hE => by have hcE := (Ext.trans _ _ _ (by (repeat (first | exact hx105.out | apply Ext.drew | apply Ext.alloc))) hE).hc; (first | replace hE := Ext.unD hE | skip); have hcF := hE.hc; clear hE; go_simp; rfl) ?_
                      simp only [Act.put, List.setIfInBounds_toArray, List.set_cons_succ, List.set_cons_zero]
                      refine plan_read _ (hi_of HO rfl) (by rw [HO.out]; rfl) (fun w' hE => by have hcE := (Ext.trans _ _ _ (by (repeat (first | exact hx105.out | apply Ext.drew | apply Ext.alloc))) hE).hc; (first | replace hE := Ext.unD hE | skip); have hcF := hE.hc; clear hE; go_simp; rfl) ?_
                      simp only [Act.put, List.setIfInBounds_toArray, List.set_cons_succ, List.set_cons_zero]
                      refine plan_read _ (hi_of HO rfl) rfl (fun w' hE => by have hcE := (Ext.trans _ _ _ (by (repeat (first | exact hx105.out | apply Ext.drew | apply Ext.alloc))) hE).hc; (first | replace hE := Ext.unD hE | skip); have hcF := hE.hc; clear hE; go_simp; rfl) ?_
                      simp only [Act.put, List.setIfInBounds_toArray, List.set_cons_succ, List.set_cons_zero]
                      refine plan_done ?fin108
                    case' hT107 =>
                      intro hb107
                      simp only [Act.put, List.setIfInBounds_toArray, List.set_cons_succ, List.set_cons_zero]
                      refine plan_skip (hi_of HO rfl) (by rw [HO.out]; rfl) ?_
                      simp only [Act.put, List.setIfInBounds_toArray, List.set_cons_succ, List.set_cons_zero]
                      refine plan_skip (hi_of HO rfl) (by rw [HO.out]; rfl) ?_
                      simp only [Act.put, List.setIfInBounds_toArray, List.set_cons_succ, List.set_cons_zero]
                      refine plan_skip (hi_of HO rfl) (by rw [HO.out]; rfl) ?_
                      simp only [Act.put, List.setIfInBounds_toArray, List.set_cons_succ, List.set_cons_zero]
                      refine plan_skip (hi_of HO rfl) (by rw [HO.out]; rfl) ?_
                      simp only [Act.put, List.setIfInBounds_toArray, List.set_cons_succ, List.set_cons_zero]
                      refine plan_skip (hi_of HO rfl) (by rw [HO.out]; rfl) ?_
                      simp only [Act.put, List.setIfInBounds_toArray, List.set_cons_succ, List.set_cons_zero]
                      refine plan_skip (hi_of HO rfl) (by rw [HO.out]; rfl) ?_
                      simp only [Act.put, List.setIfInBounds_toArray, List.set_cons_succ, List.set_cons_zero]
                      refine plan_skip (hi_of HO rfl) (by rw [HO.out]; rfl) ?_
                      simp only [Act.put, List.setIfInBounds_toArray, List.set_cons_succ, List.set_cons_zero]
                      refine plan_skip (hi_of HO rfl) (by rw [HO.out]; rfl) ?_
                      simp only [Act.put, List.setIfInBounds_toArray, List.set_cons_succ, List.set_cons_zero]
                      refine plan_skip (hi_of HO rfl) (by rw [HO.out]; rfl) ?_
                      simp only [Act.put, List.setIfInBounds_toArray, List.set_cons_succ, List.set_cons_zero]
                      refine plan_skip (hi_of HO rfl) (by rw [HO.out]; rfl) ?_
                      simp only [Act.put, List.setIfInBounds_toArray, List.set_cons_succ, List.set_cons_zero]
                      refine plan_skip (hi_of HO rfl) (by rw [HO.out]; rfl) ?_
                      simp only [Act.put, List.setIfInBounds_toArray, List.set_cons_succ, List.set_cons_zero]
                      refine plan_read _ (hi_of HO rfl) (by rw [HO.out]; rfl) (fun w' hE => by have hcE := (Ext.trans _ _ _ (by (repeat (first | exact hx105.out | apply Ext.drew | apply Ext.alloc))) hE).hc; (first | replace hE := Ext.unD hE | skip); have hcF := hE.hc; clear hE; go_simp; rfl) ?_
                      simp only [Act.put, List.setIfInBounds_toArray, List.set_cons_succ, List.set_cons_zero]
                      refine plan_read _ (hi_of HO rfl) (by rw [HO.out]; rfl) (fun w' hE => by have hcE := (Ext.trans _ _ _ (by (repeat (first | exact hx105.out | apply Ext.drew | apply Ext.alloc))) hE).hc; (first | replace hE := Ext.unD hE | skip); have hcF := hE.hc; clear hE; go_simp; rfl) ?_
                      simp only [Act.put, List.setIfInBounds_toArray, List.set_cons_succ, List.set_cons_zero]
                      refine plan_read _ (hi_of HO rfl) rfl (fun w' hE => by have hcE := (Ext.trans _ _ _ (by (repeat (first | exact hx105.out | apply Ext.drew | apply Ext.alloc))) hE).hc; (first | replace hE := Ext.unD hE | skip); have hcF := hE.hc; clear hE; go_simp; rfl) ?_
                      simp only [Act.put, List.setIfInBounds_toArray, List.set_cons_succ, List.set_cons_zero]
                      refine plan_done ?fin109
                  case' hT106 =>
                    intro hb106
                    simp only [Act.put, List.setIfInBounds_toArray, List.set_cons_succ, List.set_cons_zero]
                    refine plan_skip (hi_of HO rfl) (by rw [HO.out]; rfl) ?_
                    simp only [Act.put, List.setIfInBounds_toArray, List.set_cons_succ, List.set_cons_zero]
                    refine plan_skip (hi_of HO rfl) (by rw [HO.out]; rfl) ?_
                    simp only [Act.put, List.setIfInBounds_toArray, List.set_cons_succ, List.set_cons_zero]
                    refine plan_skip (hi_of HO rfl) (by rw [HO.out]; rfl) ?_
                    simp only [Act.put, List.setIfInBounds_toArray, List.set_cons_succ, List.set_cons_zero]
                    refine plan_skip (hi_of HO rfl) (by rw [HO.out]; rfl) ?_
                    simp only [Act.put, List.setIfInBounds_toArray, List.set_cons_succ, List.set_cons_zero]
                    refine plan_skip (hi_of HO rfl) (by rw [HO.out]; rfl) ?_
                    simp only [Act.put, List.setIfInBounds_toArray, List.set_cons_succ, List.set_cons_zero]
                    refine plan_skip (hi_of HO rfl) (by rw [HO.out]; rfl) ?_
                    simp only [Act.put, List.setIfInBounds_toArray, List.set_cons_succ, List.set_cons_zero]
                    refine plan_skip (hi_of HO rfl) (by rw [HO.out]; rfl) ?_
                    simp only [Act.put, List.setIfInBounds_toArray, List.set_cons_succ, List.set_cons_zero]
                    refine plan_skip (hi_of HO rfl) (by rw [HO.out]; rfl) ?_
                    simp only [Act.put, List.setIfInBounds_toArray, List.set_cons_succ, List.set_cons_zero]
                    refine plan_skip (hi_of HO rfl) (by rw [HO.out]; rfl) ?_
                    simp only [Act.put, List.setIfInBounds_toArray, List.set_cons_succ, List.set_cons_zero]
                    refine plan_skip (hi_of HO rfl) (by rw [HO.out]; rfl) ?_
                    simp only [Act.put, List.setIfInBounds_toArray, List.set_cons_succ, List.set_cons_zero]
                    refine plan_skip (hi_of HO rfl) (by rw [HO.out]; rfl) ?_
                    simp only [Act.put, List.setIfInBounds_toArray, List.set_cons_succ, List.set_cons_zero]
                    refine plan_skip (hi_of HO rfl) (by rw [HO.out]; rfl) ?_
                    simp only [Act.put, List.setIfInBounds_toArray, List.set_cons_succ, List.set_cons_zero]
                    refine plan_skip (hi_of HO rfl) (by rw [HO.out]; rfl) ?_
                    simp only [Act.put, List.setIfInBounds_toArray, List.set_cons_succ, List.set_cons_zero]
                    refine plan_skip (hi_of HO rfl) (by rw [HO.out]; rfl) ?_
                    simp only [Act.put, List.setIfInBounds_toArray, List.set_cons_succ, List.set_cons_zero]
                    refine plan_skip (hi_of HO rfl) (by rw [HO.out]; rfl) ?_
                    simp only [Act.put, List.setIfInBounds_toArray, List.set_cons_succ, List.set_cons_zero]
                    refine plan_skip (hi_of HO rfl) (by rw [HO.out]; rfl) ?_
                    simp only [Act.put, List.setIfInBounds_toArray, List.set_cons_succ, List.set_cons_zero]
                    refine plan_skip (hi_of HO rfl) (by rw [HO.out]; rfl) ?_
                    simp only [Act.put, List.setIfInBounds_toArray, List.set_cons_succ, List.set_cons_zero]
                    refine plan_skip (hi_of HO rfl) (by rw [HO.out]; rfl) ?_
                    simp only [Act.put, List.setIfInBounds_toArray, List.set_cons_succ, List.set_cons_zero]
                    refine plan_skip (hi_of HO rfl) (by rw [HO.out]; rfl) ?_
                    simp only [Act.put, List.setIfInBounds_toArray, List.set_cons_succ, List.set_cons_zero]
                    refine plan_skip (hi_of HO rfl) (by rw [HO.out]; rfl) ?_
                    simp only [Act.put, List.setIfInBounds_toArray, List.set_cons_succ, List.set_cons_zero]
                    refine plan_skip (hi_of HO rfl) (by rw [HO.out]; rfl) ?_
                    simp only [Act.put, List.setIfInBounds_toArray, List.set_cons_succ, List.set_cons_zero]
                    refine plan_skip (hi_of HO rfl) (by rw [HO.out]; rfl) ?_
                    simp only [Act.put, List.setIfInBounds_toArray, List.set_cons_succ, List.set_cons_zero]
                    refine plan_skip (hi_of HO rfl) (by rw [HO.out]; rfl) ?_
                    simp only [Act.put, List.setIfInBounds_toArray, List.set_cons_succ, List.set_cons_zero]
                    refine plan_skip (hi_of HO rfl) (by rw [HO.out]; rfl) ?_
                    simp only [Act.put, List.setIfInBounds_toArray, List.set_cons_succ, List.set_cons_zero]
                    refine plan_read _ (hi_of HO rfl) rfl (fun w' hE => by have hcE := (Ext.trans _ _ _ (by (repeat (first | exact hx105.out | apply Ext.drew | apply Ext.alloc))) hE).hc; (first | replace hE := Ext.unD hE | skip); have hcF := hE.hc; clear hE; go_simp; rfl) ?_
                    simp only [Act.put, List.setIfInBounds_toArray, List.set_cons_succ, List.set_cons_zero]
                    refine plan_done ?fin110
                  all_goals go_wp2_with fail
                  rotate_left 3
                  · refine (checkEntries_any _ _ _ _ _ _ _ _ _ _ (HE.out.ext (by assumption : Hid (Ext wr _)).out)).mono ?_
                    rintro e w4 ⟨rfl, hx4⟩
                    replace hx4 := Ext.trans wr _ _ (by assumption : Hid (Ext wr _)).out hx4
                    clear ax0 ax1 ax2 ax3 ax4 ax5 ax6 ax7
                    have hc4 := hx4.hc; have hl4 := hx4.hl; have he4 := hx4.hle; have hn4 := hx4.hne; replace hx4 := hid_mk hx4
                    have hr : res = partItems kind lo hi op ents := by
                      apply HPI.out <;> first | trivial | assumption
                    rw [← hr]
                    clear hr
                    by_cases hres : res = 0
                    · have HR := hid_mk hres
                      rw [hres]
                      clear hres
                      go_wp2
                      go_roundw
                      case rel => exact ⟨_, by omega, by go_num, HGO.out HR.out, Ext.trans _ _ _ HX.out hx4.out⟩
                      case measure => simp [intOf]; omega
                    · go_wp2
                      go_ret
                      exact ⟨ret_int (HBAD.out hres).symm, Ext.trans _ _ _ HX.out hx4.out⟩
                  all_goals first
                    | (go_ret
                       refine ⟨ret_int ?_, Ext.trans _ _ _ HX.out (by assumption : Hid (Ext wr _)).out⟩
                       symm
                       first
                         | (apply H117.out
                            · first | trivial | assumption
                            · first | trivial | assumption
                            · first | trivial | assumption
                            · assumption
                            · first | omega | (rename_i h; simp at h; omega))
                         | (apply H115.out
                            first
                              | exact Or.inl (by assumption)
                              | exact Or.inr (Or.inl (by assumption))
                              | exact Or.inr (Or.inr (by assumption))))
                    | (go_roundw
                       case rel =>
                         refine ⟨m + 1 + 1, ?_, ?_, ?_, Ext.trans _ _ _ HX.out (by assumption : Hid (Ext wr _)).out⟩
                         rotate_left 2
                         · apply H0.out
                           · first | trivial | assumption
                           · first | trivial | assumption
                           · first | trivial | assumption
                           · assumption
                           · first | omega | (rename_i h; simp at h; omega)
                         · omega
                         · go_num
                       case measure => simp [intOf]; omega)
              · go_wp2
                go_ret
                exact ⟨ret_int (by rw [HBAD.out (by rw [HQ.out, if_neg (by simp [HFE.out]), if_pos hz]; exact hz), HQ.out, if_neg (by simp [HFE.out]), if_pos hz]), Ext.trans _ _ _ HX.out hx2.out⟩
            · go_wp2
              go_ret
              have h114 : fieldsErr ⟨kind, lo, hi, op, cnt, s0, s1, ents⟩ = 114 := by
                revert hf; simp only [fieldsErr]; split <;> simp
              exact ⟨ret_int (by rw [HBAD.out (by rw [HQ.out, if_pos hf]; simp), HQ.out, if_pos hf, h114]), Ext.trans _ _ _ HX.out hx1.out⟩
          · have e : k = l.length := by omega
            subst e
            go_wp2
            go_ret
            exact ⟨ret_int (by rw [HG.out, HF.out, List.drop_length]; rfl), HX.out⟩
end Go.Proofs.Ytgglbohcnlcagaa
