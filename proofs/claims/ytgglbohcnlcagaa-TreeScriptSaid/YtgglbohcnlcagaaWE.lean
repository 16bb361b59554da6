/- A tree answers as the document's in all. -/
import Derived.Test.YtgglbohcnlcagaaWD
namespace Go.Proofs.Ytgglbohcnlcagaa
open Go.RowKit
set_option maxHeartbeats 2000000
set_option maxRecDepth 100000
set_option linter.unusedSimpArgs false
set_option linter.unusedVariables false
theorem en_Tsame : Enters Try.prog 52 := ⟨_, Try.func52, by kernel_rfl, rfl⟩
attribute [local go_sem ↓] neq_map_same

theorem mf_one {T : T1} {m : Nat} (hm : m < T.rows.length) : mf T (m : Int) ((m : Int) + 1) = T.rows[m].2.2 := by
  have hs : m < T.sums.length := by rw [List.length_map]; exact hm
  have e1 : min ((m : Int) + 1).toNat T.size = m + 1 := by rw [← Tr.rows_len]; omega
  unfold mf
  rw [e1, Int.toNat_natCast, show sl T.sums m (m + 1) = [T.sums[m]] by
    unfold sl
    rw [List.take_succ_eq_append_getElem hs, List.drop_append, List.drop_eq_nil_of_le (by rw [List.length_take]; omega), List.length_take, Nat.min_eq_left (by omega)]
    simp]
  simp [foldP]
theorem same_any {w : World} {ta rb : Nat} {T : T1} (hm : MTree w ta T) (hr : RTree w rb T.rows) (hg : Good T) :
    Calls Try.prog 52 #[.pointer (some ⟨ta, 0, none⟩), .pointer (some ⟨rb, 0, none⟩)] w fun e w' => e = .returned (.bool true) ∧ Ext w w' := by
  have HG := hid_mk hg
  have HM := hid_mk hm
  have HR := hid_mk hr
  obtain ⟨n, hn⟩ : ∃ n : Nat, T.size = n := ⟨_, rfl⟩
  have HN := hid_mk hn
  have HNB := hid_mk (show n ≤ 4398046511104 by rw [← hn]; exact hg.sz)
  have HLR := hid_mk (show T.rows.length = n by rw [Tr.rows_len, hn])
  clear hm hr hg hn
  go_enter Try.func52, Try.ntmps52
  go_wp2_with fail
  refine (rlen_any HR.out).mono ?_
  rintro e w1 ⟨rfl, rfl⟩
  rw [HLR.out]
  go_wp2_with fail
  refine (mlen HM.out).mono ?_
  rintro e w2 ⟨rfl, rfl⟩
  rw [HN.out]
  go_wp2_with fail
  refine (mfold 0 (n : Int) (by omega) (by have := HNB.out; omega) HM.out HG.out).mono ?_
  rintro e w3 ⟨rfl, hx⟩
  replace HM := hid_mk (HM.out.ext hx)
  replace HR := hid_mk (HR.out.ext hx)
  have HX := hid_mk hx
  clear hx
  obtain ⟨f1, hf1⟩ : ∃ f, mf T 0 (n : Int) = f := ⟨_, rfl⟩
  have HF1 := hid_mk ((mfL_mf T 0 (n : Int)).trans hf1)
  rw [hf1]
  clear hf1
  go_wp2_with fail
  refine (rfold_any 0 (n : Int) (by omega) (by have := HNB.out; omega) HR.out HG.out.inm).mono ?_
  rintro e w4 ⟨rfl, hx⟩
  rw [HF1.out]
  replace HM := hid_mk (HM.out.ext hx)
  replace HR := hid_mk (HR.out.ext hx)
  replace HX := hid_mk (Ext.trans _ _ _ HX.out hx)
  clear hx
  obtain ⟨⟨sv, h1, h2⟩, h3⟩ := HR.out
  obtain ⟨a, c, rfl, hlc, hl42, hrows⟩ := h2
  rw [HLR.out] at hlc hl42 h1
  have hrl := cell_lt h1
  have HRW := hid_mk hrows
  clear hrows h3
  go_wp2_with fail
  go_loopw [36] (fun x wr => ∃ m : Nat, m ≤ n ∧ x = .int .i64 (m : Int) ∧ Ext w4 wr) (fun x _ => n - (intOf x).toNat)
  case atStart => exact ⟨0, Nat.zero_le _, rfl, Ext.refl _⟩
  case round =>
    obtain ⟨m, hm, rfl, hx⟩ := hrel
    have HXR := hid_mk hx
    have HMR := hid_mk (HM.out.ext hx)
    clear hx
    by_cases hlt : m < n
    · have hlr : m < T.rows.length := by rw [HLR.out]; exact hlt
      obtain ⟨b, o, rfl, hrr⟩ := HRW.out (by omega)
      obtain ⟨r0, r1, r2, r3⟩ := hrr.xt (Xt.of HXR.out : Xt none _ _) (by simp) m hlr
      have hbl := cell_lt r0
      have HAT := hid_mk (show T.at_ (m : Int) = some (T.rows[m].1, T.rows[m].2.1) by
        rw [Tr.at_rows, if_neg (by omega), Int.toNat_natCast, List.getElem?_eq_getElem hlr]; rfl)
      have HGT := hid_mk (show T.get T.rows[m].1 = some T.rows[m].2.1 by rw [Tr.get_rows _ _ HG.out.srt, fnd_at HG.out.srt m hlr]; rfl)
      have HCT := hid_mk (cnt_at HG.out.srt m hlr)
      have HMF := hid_mk (mf_one hlr)
      generalize T.rows[m] = r at *
      have hm1 : (m : Int) < (n : Int) := by omega
      have hm0 : (0 : Int) ≤ (m : Int) := by omega
      have hw1 : wrap64 ((m : Int) + 1) = (m : Int) + 1 := w64in (by have := HNB.out; omega)
      have HW1 := hid_mk hw1
      have HMB := hid_mk (show -9223372036854775808 ≤ (m : Int) ∧ (m : Int) + 1 ≤ 9223372036854775807 by have := HNB.out; clear hw1; omega)
      clear hrr hlr
      go_wp2_with fail
      refine (mat (m : Int) (by have := HMB.out; clear hw1; omega) (HMR.out.ext (by (repeat (first | exact Ext.refl _ | apply Ext.drew_left | apply Ext.drew | apply Ext.alloc | (refine Ext.setX ?_ (by simp)))))) HG.out).mono ?_
      rintro e w5 ⟨rfl, hx⟩
      rw [HAT.out]
      simp only [atV1, encV1, Option.map_some, Option.getD_some, Option.isSome_some]
      have q0 := cell_ext hx (show (wr.alloc _).cell? ⟨wr.heap.size, 0, none⟩ = some (.string r.1) by go_simp)
      have q1 := cell_ext hx (show (wr.alloc _).cell? ⟨wr.heap.size, 1, none⟩ = some (.int .i64 r.2.1) by go_simp)
      have q2 := cell_ext hx (show (wr.alloc _).cell? ⟨wr.heap.size, 2, none⟩ = some (.int .u64 r.2.2.1) by go_simp)
      have q3 := cell_ext hx (show (wr.alloc _).cell? ⟨wr.heap.size, 3, none⟩ = some (.int .u64 r.2.2.2) by go_simp)
      have hql := cell_lt q0
      have HX5 := hid_mk (Ext.trans wr _ _ (by (repeat (first | exact Ext.refl _ | apply Ext.drew_left | apply Ext.drew | apply Ext.alloc | (refine Ext.setX ?_ (by simp))))) hx)
      have HM5 := hid_mk (HMR.out.ext HX5.out)
      clear r0 r1 r2 r3 hbl hx
      go_wp2_with fail
      refine (mget r.1 HM5.out).mono ?_
      rintro e w6 ⟨rfl, rfl⟩
      rw [HGT.out]
      simp only [Option.getD_some, Option.isSome_some]
      have e1 : IntKind.i64.wrap ((m : Int) + 1) = (m : Int) + 1 := by have h := hw1; unfold wrap64 at h; rw [IntKind.wrap_i64]; exact h
      have HFO := hid_mk (fun (V : World) (hV : Ext w5 V) => (show Calls Try.prog 38 #[.pointer (some ⟨ta, 0, none⟩), .int .i64 (m : Int), .int .i64 ((m : Int) + 1)] V fun e w' => e = .returned (.agg #[.int .u64 r.2.2.1, .int .u64 r.2.2.2]) ∧ Ext V w' from by
        have h := mfold (w := V) (m : Int) ((m : Int) + 1) (by have := HMB.out; clear hw1 e1; omega) (by have := HMB.out; clear hw1 e1; omega) (HM5.out.ext hV) HG.out
        rw [HMF.out] at h
        exact h))
      go_wp2_with fail
      refine wp_region_held_below (fun _ => true) (.quiet 0 (.quiet 1 (.quiet 2 (.quiet 3 (.quiet 4 (.quiet 5 (.quiet 6 (.quiet 7 (.quiet 8 (.quiet 9 (.quiet 10 (.quiet 11 (.quiet 12 (.quiet 13 (.quiet 14 (.quiet 15 (.quiet 16 (.quiet 17 (.quiet 18 (.quiet 19 (.quiet 20 (.quiet 21 (.quiet 22 (.quiet 23 (.quiet 24 (.quiet 25 (.quiet 26 (.quiet 27 (.quiet 28 (.quiet 29 (.quiet 30 (.quiet 31 (.quiet 32 (.quiet 33 (.quiet 34 (.quiet 35 (.quiet 36 (.quiet 38 (.quiet 39 (.alt 37 (.quiet 40 (.quiet 41 .done)) .stop)))))))))))))))))))))))))))))))))))))))) (by kernel_rfl) (by kernel_rfl) (by intro c a w d v h; cases d <;> exact h) (fun ops HO => ?_)
      refine plan_read _ (hi_of HO rfl) rfl (fun w' hE => by (repeat (with_reducible replace hE := Ext.unD hE)); have hcE := hE.hc; clear hE; go_simp; rfl) ?_
      simp only [Act.put, List.setIfInBounds_toArray, List.set_cons_succ, List.set_cons_zero]
      refine plan_read _ (hi_of HO rfl) rfl (fun w' hE => by (repeat (with_reducible replace hE := Ext.unD hE)); have hcE := hE.hc; clear hE; go_simp; rfl) ?_
      simp only [Act.put, List.setIfInBounds_toArray, List.set_cons_succ, List.set_cons_zero]
      refine plan_read _ (hi_of HO rfl) rfl (fun w' hE => by (repeat (with_reducible replace hE := Ext.unD hE)); have hcE := hE.hc; clear hE; go_simp; rfl) ?_
      simp only [Act.put, List.setIfInBounds_toArray, List.set_cons_succ, List.set_cons_zero]
      refine plan_read _ (hi_of HO rfl) rfl (fun w' hE => by (repeat (with_reducible replace hE := Ext.unD hE)); have hcE := hE.hc; clear hE; go_simp; rfl) ?_
      simp only [Act.put, List.setIfInBounds_toArray, List.set_cons_succ, List.set_cons_zero]
      refine plan_read _ (hi_of HO rfl) rfl (fun w' hE => by (repeat (with_reducible replace hE := Ext.unD hE)); have hcE := hE.hc; clear hE; go_simp; rfl) ?_
      simp only [Act.put, List.setIfInBounds_toArray, List.set_cons_succ, List.set_cons_zero]
      refine plan_read _ (hi_of HO rfl) (by rw [HO.out]; rfl) (fun w' hE => by (repeat (with_reducible replace hE := Ext.unD hE)); have hcE := hE.hc; clear hE; go_simp; rfl) ?_
      simp only [Act.put, List.setIfInBounds_toArray, List.set_cons_succ, List.set_cons_zero]
      refine plan_read _ (hi_of HO rfl) (by rw [HO.out]; rfl) (fun w' hE => by (repeat (with_reducible replace hE := Ext.unD hE)); have hcE := hE.hc; clear hE; go_simp; rfl) ?_
      simp only [Act.put, List.setIfInBounds_toArray, List.set_cons_succ, List.set_cons_zero]
      refine plan_read _ (hi_of HO rfl) (by rw [HO.out]; rfl) (fun w' hE => by (repeat (with_reducible replace hE := Ext.unD hE)); have hcE := hE.hc; clear hE; go_simp; rfl) ?_
      simp only [Act.put, List.setIfInBounds_toArray, List.set_cons_succ, List.set_cons_zero]
      refine plan_read _ (hi_of HO rfl) (by rw [HO.out]; rfl) (fun w' hE => by (repeat (with_reducible replace hE := Ext.unD hE)); have hcE := hE.hc; clear hE; go_simp; rfl) ?_
      simp only [Act.put, List.setIfInBounds_toArray, List.set_cons_succ, List.set_cons_zero]
      refine plan_read _ (hi_of HO rfl) rfl (fun w' hE => by (repeat (with_reducible replace hE := Ext.unD hE)); have hcE := hE.hc; clear hE; go_simp; rfl) ?_
      simp only [Act.put, List.setIfInBounds_toArray, List.set_cons_succ, List.set_cons_zero]
      refine plan_read _ (hi_of HO rfl) rfl (fun w' hE => by (repeat (with_reducible replace hE := Ext.unD hE)); have hcE := hE.hc; clear hE; go_simp; rfl) ?_
      simp only [Act.put, List.setIfInBounds_toArray, List.set_cons_succ, List.set_cons_zero]
      refine plan_read _ (hi_of HO rfl) (by rw [HO.out]; rfl) (fun w' hE => by (repeat (with_reducible replace hE := Ext.unD hE)); have hcE := hE.hc; clear hE; go_simp; rfl) ?_
      simp only [Act.put, List.setIfInBounds_toArray, List.set_cons_succ, List.set_cons_zero]
      refine plan_read _ (hi_of HO rfl) (by rw [HO.out]; rfl) (fun w' hE => by (repeat (with_reducible replace hE := Ext.unD hE)); have hcE := hE.hc; clear hE; go_simp; rfl) ?_
      simp only [Act.put, List.setIfInBounds_toArray, List.set_cons_succ, List.set_cons_zero]
      refine plan_read _ (hi_of HO rfl) rfl (fun w' hE => by (repeat (with_reducible replace hE := Ext.unD hE)); have hcE := hE.hc; clear hE; go_simp; rfl) ?_
      simp only [Act.put, List.setIfInBounds_toArray, List.set_cons_succ, List.set_cons_zero]
      refine plan_read _ (hi_of HO rfl) rfl (fun w' hE => by (repeat (with_reducible replace hE := Ext.unD hE)); have hcE := hE.hc; clear hE; go_simp; rfl) ?_
      simp only [Act.put, List.setIfInBounds_toArray, List.set_cons_succ, List.set_cons_zero]
      refine plan_read _ (hi_of HO rfl) (by rw [HO.out]; rfl) (fun w' hE => by (repeat (with_reducible replace hE := Ext.unD hE)); have hcE := hE.hc; clear hE; go_simp; rfl) ?_
      simp only [Act.put, List.setIfInBounds_toArray, List.set_cons_succ, List.set_cons_zero]
      refine plan_read _ (hi_of HO rfl) (by rw [HO.out]; rfl) (fun w' hE => by (repeat (with_reducible replace hE := Ext.unD hE)); have hcE := hE.hc; clear hE; go_simp; rfl) ?_
      simp only [Act.put, List.setIfInBounds_toArray, List.set_cons_succ, List.set_cons_zero]
      refine plan_read _ (hi_of HO rfl) (by rw [HO.out]; rfl) (fun w' hE => by (repeat (with_reducible replace hE := Ext.unD hE)); have hcE := hE.hc; clear hE; go_simp; rfl) ?_
      simp only [Act.put, List.setIfInBounds_toArray, List.set_cons_succ, List.set_cons_zero]
      refine plan_read _ (hi_of HO rfl) (by rw [HO.out]; rfl) (fun w' hE => by (repeat (with_reducible replace hE := Ext.unD hE)); have hcE := hE.hc; clear hE; go_simp; rfl) ?_
      simp only [Act.put, List.setIfInBounds_toArray, List.set_cons_succ, List.set_cons_zero]
      refine plan_read _ (hi_of HO rfl) rfl (fun w' hE => by (repeat (with_reducible replace hE := Ext.unD hE)); have hcE := hE.hc; clear hE; go_simp; rfl) ?_
      simp only [Act.put, List.setIfInBounds_toArray, List.set_cons_succ, List.set_cons_zero]
      refine plan_read _ (hi_of HO rfl) rfl (fun w' hE => by (repeat (with_reducible replace hE := Ext.unD hE)); have hcE := hE.hc; clear hE; go_simp; rfl) ?_
      simp only [Act.put, List.setIfInBounds_toArray, List.set_cons_succ, List.set_cons_zero]
      refine plan_read _ (hi_of HO rfl) (by rw [HO.out]; rfl) (fun w' hE => by (repeat (with_reducible replace hE := Ext.unD hE)); have hcE := hE.hc; clear hE; go_simp; rfl) ?_
      simp only [Act.put, List.setIfInBounds_toArray, List.set_cons_succ, List.set_cons_zero]
      refine plan_read _ (hi_of HO rfl) (by rw [HO.out]; rfl) (fun w' hE => by (repeat (with_reducible replace hE := Ext.unD hE)); have hcE := hE.hc; clear hE; go_simp; rfl) ?_
      simp only [Act.put, List.setIfInBounds_toArray, List.set_cons_succ, List.set_cons_zero]
      refine plan_read _ (hi_of HO rfl) rfl (fun w' hE => by (repeat (with_reducible replace hE := Ext.unD hE)); have hcE := hE.hc; clear hE; go_simp; rfl) ?_
      simp only [Act.put, List.setIfInBounds_toArray, List.set_cons_succ, List.set_cons_zero]
      refine plan_read _ (hi_of HO rfl) rfl (fun w' hE => by (repeat (with_reducible replace hE := Ext.unD hE)); have hcE := hE.hc; clear hE; go_simp; rfl) ?_
      simp only [Act.put, List.setIfInBounds_toArray, List.set_cons_succ, List.set_cons_zero]
      refine plan_read _ (hi_of HO rfl) (by rw [HO.out]; rfl) (fun w' hE => by (repeat (with_reducible replace hE := Ext.unD hE)); have hcE := hE.hc; clear hE; go_simp; rfl) ?_
      simp only [Act.put, List.setIfInBounds_toArray, List.set_cons_succ, List.set_cons_zero]
      refine plan_read _ (hi_of HO rfl) (by rw [HO.out]; rfl) (fun w' hE => by (repeat (with_reducible replace hE := Ext.unD hE)); have hcE := hE.hc; clear hE; go_simp; rfl) ?_
      simp only [Act.put, List.setIfInBounds_toArray, List.set_cons_succ, List.set_cons_zero]
      refine plan_read _ (hi_of HO rfl) (by rw [HO.out]; rfl) (fun w' hE => by (repeat (with_reducible replace hE := Ext.unD hE)); have hcE := hE.hc; clear hE; go_simp; rfl) ?_
      simp only [Act.put, List.setIfInBounds_toArray, List.set_cons_succ, List.set_cons_zero]
      refine plan_pure _ en_TRank1 (hi_of HO rfl) (by rw [HO.out]; rfl) rfl (by go_simp; rfl) (fun w' hE => by exact (by have h := mrank r.1 (HM5.out.ext (Ext.unD hE)) HG.out; rw [HCT.out] at h; exact h)) ?_
      simp only [Act.put, List.setIfInBounds_toArray, List.set_cons_succ, List.set_cons_zero]
      refine plan_read _ (hi_of HO rfl) (by rw [HO.out]; rfl) (fun w' hE => by (repeat (with_reducible replace hE := Ext.unD hE)); have hcE := hE.hc; clear hE; go_simp; rfl) ?_
      simp only [Act.put, List.setIfInBounds_toArray, List.set_cons_succ, List.set_cons_zero]
      refine plan_read _ (hi_of HO rfl) (by rw [HO.out]; rfl) (fun w' hE => by (repeat (with_reducible replace hE := Ext.unD hE)); have hcE := hE.hc; clear hE; go_simp; rfl) ?_
      simp only [Act.put, List.setIfInBounds_toArray, List.set_cons_succ, List.set_cons_zero]
      refine plan_read _ (hi_of HO rfl) rfl (fun w' hE => by (repeat (with_reducible replace hE := Ext.unD hE)); have hcE := hE.hc; clear hE; go_simp; rfl) ?_
      simp only [Act.put, List.setIfInBounds_toArray, List.set_cons_succ, List.set_cons_zero]
      refine plan_read _ (hi_of HO rfl) rfl (fun w' hE => by (repeat (with_reducible replace hE := Ext.unD hE)); have hcE := hE.hc; clear hE; go_simp; rfl) ?_
      simp only [Act.put, List.setIfInBounds_toArray, List.set_cons_succ, List.set_cons_zero]
      refine plan_read _ (hi_of HO rfl) (by rw [HO.out]; rfl) (fun w' hE => by (repeat (with_reducible replace hE := Ext.unD hE)); have hcE := hE.hc; clear hE; go_simp; rfl) ?_
      simp only [Act.put, List.setIfInBounds_toArray, List.set_cons_succ, List.set_cons_zero]
      refine plan_read _ (hi_of HO rfl) (by rw [HO.out]; rfl) (fun w' hE => by (repeat (with_reducible replace hE := Ext.unD hE)); have hcE := hE.hc; clear hE; go_simp; rfl) ?_
      simp only [Act.put, List.setIfInBounds_toArray, List.set_cons_succ, List.set_cons_zero]
      refine plan_read _ (hi_of HO rfl) (by rw [HO.out]; rfl) (fun w' hE => by (repeat (with_reducible replace hE := Ext.unD hE)); have hcE := hE.hc; clear hE; go_simp; rfl) ?_
      simp only [Act.put, List.setIfInBounds_toArray, List.set_cons_succ, List.set_cons_zero]
      refine plan_read _ (hi_of HO rfl) (by rw [HO.out]; rfl) (fun w' hE => by (repeat (with_reducible replace hE := Ext.unD hE)); have hcE := hE.hc; clear hE; go_simp; rfl) ?_
      simp only [Act.put, List.setIfInBounds_toArray, List.set_cons_succ, List.set_cons_zero]
      refine plan_read _ (hi_of HO rfl) (by rw [HO.out]; rfl) (fun w' hE => by (repeat (with_reducible replace hE := Ext.unD hE)); have hcE := hE.hc; clear hE; go_simp; rfl) ?_
      simp only [Act.put, List.setIfInBounds_toArray, List.set_cons_succ, List.set_cons_zero]
      refine plan_read _ (hi_of HO rfl) (by rw [HO.out]; rfl) (fun w' hE => by (repeat (with_reducible replace hE := Ext.unD hE)); have hcE := hE.hc; clear hE; go_simp; rfl) ?_
      simp only [Act.put, List.setIfInBounds_toArray, List.set_cons_succ, List.set_cons_zero]
      refine plan_call1 en_TFold1 (hi_of HO rfl) (by rw [HO.out]; rfl) rfl (by go_simp; rfl) (by exact (HFO.out _ (by (repeat (first | exact Ext.refl _ | apply Ext.drew_left | apply Ext.drew | apply Ext.alloc))))) ?_
      rintro e v101 ⟨rfl, hx101⟩
      refine ⟨_, rfl, fun _ => hx101, ?_⟩
      have hy101 := hid_mk (by first | (with_reducible exact Ext.unD hx101) | exact hx101 : Ext _ v101)
      have hc101 := hx101.hc; have hl101 := hx101.hl; have he101 := hx101.hle; have hn101 := hx101.hne; replace hx101 := hid_mk hx101
      simp only [Act.put, List.setIfInBounds_toArray, List.set_cons_succ, List.set_cons_zero]
      have HQZ := hy101
      refine plan_read _ (hi_of HO rfl) (by rw [HO.out]; rfl) (fun w' hE => by have hcE := (Ext.trans _ _ _ (by (repeat (first | exact hx101.out | apply Ext.drew | apply Ext.alloc))) hE).hc; (repeat (with_reducible replace hE := Ext.unD hE)); have hcF := hE.hc; clear hE; go_simp; rfl) ?_
      simp only [Act.put, List.setIfInBounds_toArray, List.set_cons_succ, List.set_cons_zero]
      refine plan_read _ (hi_of HO rfl) rfl (fun w' hE => by have hcE := (Ext.trans _ _ _ (by (repeat (first | exact hx101.out | apply Ext.drew | apply Ext.alloc))) hE).hc; (repeat (with_reducible replace hE := Ext.unD hE)); have hcF := hE.hc; clear hE; go_simp; rfl) ?_
      simp only [Act.put, List.setIfInBounds_toArray, List.set_cons_succ, List.set_cons_zero]
      refine plan_done ?fin102
      go_wp2
      go_roundw
      case rel => exact ⟨m + 1, Nat.succ_le_of_lt hlt, (by first | exact congrArg (Value.int .i64) HW1.out | rfl), Ext.trans _ _ _ HXR.out (Ext.trans _ _ _ HX5.out (by first | exact HQZ.out | exact Ext.drew HQZ.out))⟩
      case measure => (try simp only [HW1.out]); clear hw1 e1; simp [intOf]; omega
    · obtain rfl : m = n := by omega
      have hmm : ¬ (m : Int) < (m : Int) := by omega
      go_wp2_with fail
      refine (mat (m : Int) (by have := HNB.out; omega) HMR.out HG.out).mono ?_
      rintro e w5 ⟨rfl, hx⟩
      have hy : T.at_ (m : Int) = none := by
        rw [Tr.at_rows, if_neg (by omega), Int.toNat_natCast, List.getElem?_eq_none (by rw [HLR.out]; exact Nat.le_refl _)]; rfl
      rw [hy]
      simp only [atV1, Option.map_none, Option.getD_none, Option.isSome_none, zV1]
      replace HXR := hid_mk (Ext.trans _ _ _ HXR.out hx)
      clear hx hy
      go_wp2
      go_ret
      exact ⟨rfl, Ext.trans _ _ _ HX.out HXR.out⟩
end Go.Proofs.Ytgglbohcnlcagaa
