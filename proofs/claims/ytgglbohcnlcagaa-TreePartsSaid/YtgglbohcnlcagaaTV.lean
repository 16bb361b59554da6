/- Folds of parts, ranks, places: the walk of TreeParts. -/
import Derived.Test.YtgglbohcnlcagaaTU
import Derived.Test.YtgglbohcnlcagaaTN
namespace Go.Proofs.Ytgglbohcnlcagaa
open Go.RowKit
set_option maxHeartbeats 2000000
set_option maxRecDepth 100000
set_option linter.unusedSimpArgs false
set_option linter.unusedVariables false
theorem en_TreeParts : Enters Try.prog 6 := ⟨_, Try.func6, by kernel_rfl, rfl⟩
attribute [local go_sem ↓] neq_map_same

theorem w64in {n : Int} (h : -9223372036854775808 ≤ n ∧ n ≤ 9223372036854775807) : wrap64 n = n := by unfold wrap64; omega
/-- Three ints. -/
structure Arr3 (w : World) (b : Nat) (c0 c1 c2 : Int) : Prop where
  a0 : w.cell? ⟨b, 0, none⟩ = some (.int .i64 c0)
  a1 : w.cell? ⟨b, 1, none⟩ = some (.int .i64 c1)
  a2 : w.cell? ⟨b, 2, none⟩ = some (.int .i64 c2)
theorem Arr3.ext {w w' : World} {b : Nat} {c0 c1 c2 : Int} (h : Arr3 w b c0 c1 c2) (hx : Ext w w') : Arr3 w' b c0 c1 c2 := ⟨cell_ext hx h.a0, cell_ext hx h.a1, cell_ext hx h.a2⟩
theorem parts_at {T : T1} (hg : Good T) (key : ByteArray) {m : Nat} (hm : m < T.size) : ∃ r : R1, T.at_ (m : Int) = some (r.1, r.2.1) ∧ T.get r.1 = some r.2.1 ∧ cnt r.1 T.rows = m ∧ Op.bytesLess r.1.toList key.toList = decide ((m : Int) < (cnt key T.rows : Int)) := by
  have hl : m < T.rows.length := by rw [Tr.rows_len]; exact hm
  refine ⟨T.rows[m], ?_, ?_, cnt_at hg.srt m hl, ?_⟩
  · rw [Tr.at_rows, if_neg (by omega), Int.toNat_natCast, List.getElem?_eq_getElem hl]; rfl
  · rw [Tr.get_rows _ _ hg.srt, fnd_at hg.srt m hl]; rfl
  · have h4 := cnt_lt (k := key) hg.srt m hl
    by_cases hq : m < cnt key T.rows
    · rw [h4.2 hq]; simp; omega
    · have : ¬ Op.bytesLess T.rows[m].1.toList key.toList = true := fun e => hq (h4.1 e)
      simp only [Bool.not_eq_true] at this
      rw [this]; simp; omega
theorem parts_end {T : T1} (hg : Good T) (key : ByteArray) : (T.get key).isSome = ((T.at_ (cnt key T.rows : Int)).isSome && ((Option.map (fun r : ByteArray × Int => r.1) (T.at_ (cnt key T.rows : Int))).getD ⟨#[]⟩).toList == key.toList) := by
  rw [Tr.get_rows _ _ hg.srt, Tr.at_rows, if_neg (by omega), Int.toNat_natCast, Option.isSome_map]
  have h6 := fnd_cnt hg.srt key
  by_cases hc : cnt key T.rows < T.rows.length
  · rw [List.getElem?_eq_getElem hc]
    simp only [Option.map_some, Option.isSome_some, Option.getD_some, Bool.true_and]
    by_cases hk : T.rows[cnt key T.rows].1 = key
    · rw [h6.2 ⟨hc, hk⟩, hk]; simp
    · have : ¬ (fnd key T.rows).isSome = true := fun e => hk (h6.1 e).2
      simp only [Bool.not_eq_true] at this
      rw [this]
      symm
      simp only [beq_eq_false_iff_ne, ne_eq]
      exact fun e => hk (ba_ext e)
  · rw [List.getElem?_eq_none (by omega)]
    have : ¬ (fnd key T.rows).isSome = true := fun e => hc (h6.1 e).1
    simp only [Bool.not_eq_true] at this
    rw [this]; rfl
theorem treeParts_walk (L : List R1) (v0 : Value) (c0 c1 c2 : Int) (key : ByteArray) (W : World) (hL : RowsSl W v0 L) (hr : ∀ r ∈ L, InM r.2.2)
    (h0 : -9223372036854775808 ≤ c0 ∧ c0 ≤ 9223372036854775807) (h1 : -9223372036854775808 ≤ c1 ∧ c1 ≤ 9223372036854775807) (h2 : -9223372036854775808 ≤ c2 ∧ c2 ≤ 9223372036854775807) :
    Calls Try.prog 6 #[v0, .agg #[.int .i64 c0, .int .i64 c1, .int .i64 c2], .string key] W fun e w' => e = .returned (.bool true) ∧ Ext W w' := by
  have hlen : L.length ≤ 4398046511104 := by obtain ⟨a, c, -, -, h, -⟩ := hL; exact h
  have hg : Good (puts L .nil) := good_puts L .nil good_nil hr (by simp only [Tr.size]; omega)
  have HL := hid_mk hL
  have HR := hid_mk (And.intro h0 (And.intro h1 h2))
  have HG := hid_mk hg
  have hn := hg.sz
  obtain ⟨T, hT⟩ : ∃ T, puts L (.nil : T1) = T := ⟨_, rfl⟩
  rw [hT] at hg hn HG
  obtain ⟨n, hnn⟩ : ∃ n : Nat, T.size = n := ⟨_, rfl⟩
  rw [hnn] at hn
  obtain ⟨i, hi⟩ : ∃ i, am c0 ((n : Int) + 1) = i := ⟨_, rfl⟩
  have bi : 0 ≤ i ∧ i ≤ n := by rw [← hi]; unfold am; rw [if_neg (by omega)]; have := Int.emod_nonneg c0 (show (n : Int) + 1 ≠ 0 by omega); have := Int.emod_lt_of_pos c0 (show (0 : Int) < (n : Int) + 1 by omega); omega
  obtain ⟨j', hj⟩ : ∃ j', am c1 ((n : Int) - i + 1) = j' := ⟨_, rfl⟩
  have bj : 0 ≤ j' ∧ i + j' ≤ n := by rw [← hj]; unfold am; rw [if_neg (by omega)]; have := Int.emod_nonneg c1 (show (n : Int) - i + 1 ≠ 0 by omega); have := Int.emod_lt_of_pos c1 (show (0 : Int) < (n : Int) - i + 1 by omega); omega
  obtain ⟨j, hj2⟩ : ∃ j, i + j' = j := ⟨_, rfl⟩
  rw [hj2] at bj
  obtain ⟨k', hk⟩ : ∃ k', am c2 ((n : Int) - j + 1) = k' := ⟨_, rfl⟩
  have bk : 0 ≤ k' ∧ j + k' ≤ n := by rw [← hk]; unfold am; rw [if_neg (by omega)]; have := Int.emod_nonneg c2 (show (n : Int) - j + 1 ≠ 0 by omega); have := Int.emod_lt_of_pos c2 (show (0 : Int) < (n : Int) - j + 1 by omega); omega
  obtain ⟨k, hk2⟩ : ∃ k, j + k' = k := ⟨_, rfl⟩
  rw [hk2] at bk
  have hij : i ≤ j := by omega
  have hjk : j ≤ k := by omega
  have HI := hid_mk (And.intro hi (And.intro hj (And.intro hk (And.intro hj2 hk2))))
  have HB := hid_mk (show (0 ≤ i ∧ i ≤ j ∧ j ≤ k ∧ k ≤ n) ∧ n ≤ 4398046511104 by omega)
  have A1 := hid_mk (mf_app (i := i) (j := j) (k := k) hg hij hjk (by omega))
  have A2 := hid_mk (mf_app (i := 0) (j := i) (k := k) hg (by omega) (by omega) (by omega))
  have A3 := hid_mk (mf_app (i := 0) (j := k) (k := n) hg (by omega) (by omega) (by omega))
  have A4 := hid_mk (mf_none (T := T) (i := j) (j := j) (Int.le_refl _))
  obtain ⟨xij, Xij⟩ : ∃ x, Hid (mf T i j = x) := ⟨_, hid_mk rfl⟩
  obtain ⟨xjk, Xjk⟩ : ∃ x, Hid (mf T j k = x) := ⟨_, hid_mk rfl⟩
  obtain ⟨xik, Xik⟩ : ∃ x, Hid (mf T i k = x) := ⟨_, hid_mk rfl⟩
  obtain ⟨xoi, Xoi⟩ : ∃ x, Hid (mf T 0 i = x) := ⟨_, hid_mk rfl⟩
  obtain ⟨xok, Xok⟩ : ∃ x, Hid (mf T 0 k = x) := ⟨_, hid_mk rfl⟩
  obtain ⟨xkn, Xkn⟩ : ∃ x, Hid (mf T k (n : Int) = x) := ⟨_, hid_mk rfl⟩
  obtain ⟨xon, Xon⟩ : ∃ x, Hid (mf T 0 (n : Int) = x) := ⟨_, hid_mk rfl⟩
  obtain ⟨xjj, Xjj⟩ : ∃ x, Hid (mf T j j = x) := ⟨_, hid_mk rfl⟩
  replace A1 : Hid (jm xij xjk = xik) := hid_mk (by rw [← Xij.out, ← Xjk.out, ← Xik.out]; exact A1.out)
  replace A2 : Hid (jm xoi xik = xok) := hid_mk (by rw [← Xoi.out, ← Xik.out, ← Xok.out]; exact A2.out)
  replace A3 : Hid (jm xok xkn = xon) := hid_mk (by rw [← Xok.out, ← Xkn.out, ← Xon.out]; exact A3.out)
  have HN := hid_mk hnn
  have HTT := hid_mk hT
  obtain ⟨e1, e2, e3, e4, e5, e6, e7⟩ : (wrap64 ((n : Int) + 1) = (n : Int) + 1) ∧ (wrap64 ((n : Int) - i) = (n : Int) - i) ∧ (wrap64 ((n : Int) - i + 1) = (n : Int) - i + 1) ∧ (wrap64 ((n : Int) - j) = (n : Int) - j) ∧ (wrap64 ((n : Int) - j + 1) = (n : Int) - j + 1) ∧ (wrap64 (i + j') = j) ∧ (wrap64 (j + k') = k) := ⟨w64in (by omega), w64in (by omega), w64in (by omega), w64in (by omega), w64in (by omega), (w64in (n := i + j') (by omega)).trans hj2, (w64in (n := j + k') (by omega)).trans hk2⟩
  clear hL hr h0 h1 h2 hg hi hj hk hj2 hk2 bi bj bk hnn hT hij hjk hn
  go_enter Try.func6, Try.ntmps6
  go_wp2_with fail
  refine (shown_any _).mono ?_
  rintro e w1 ⟨rfl, hx1⟩
  have HX := hid_mk (Ext.trans W _ _ (by (repeat (first | exact Ext.refl _ | apply Ext.drew_left | apply Ext.drew | apply Ext.alloc))) hx1)
  have HA := hid_mk (show Arr3 w1 W.heap.size c0 c1 c2 from ⟨cell_ext hx1 (by go_simp), cell_ext hx1 (by go_simp), cell_ext hx1 (by go_simp)⟩)
  clear hx1
  go_wp2_with fail
  refine (grown_any L v0 _ (HL.out.ext HX.out)).mono ?_
  rintro e w2 ⟨tb, rfl, hb, hT, hx2⟩
  rw [HTT.out] at hT
  have HT := hid_mk hT
  replace HX := hid_mk (Ext.trans _ _ _ HX.out hx2)
  replace HA := hid_mk (HA.out.ext hx2)
  clear hT hx2 hb
  go_wp2_with fail
  refine (mlen HT.out).mono ?_
  rintro e w3 ⟨rfl, rfl⟩
  rw [HN.out]
  obtain ⟨a0, a1, a2⟩ := HA.out
  have halt := cell_lt a0
  go_wp2_with fail
  refine (among_any c0 ((n : Int) + 1) HR.out.1 (by have := HB.out; omega) _).mono ?_
  rintro e w4 ⟨rfl, rfl⟩
  rw [HI.out.1]
  go_wp2_with fail
  refine (among_any c1 ((n : Int) - i + 1) HR.out.2.1 (by have := HB.out; omega) _).mono ?_
  rintro e w5 ⟨rfl, rfl⟩
  rw [HI.out.2.1]
  go_wp2_with fail
  refine (among_any c2 ((n : Int) - j + 1) HR.out.2.2 (by have := HB.out; omega) _).mono ?_
  rintro e w6 ⟨rfl, rfl⟩
  rw [HI.out.2.2.1]
  go_wp2_with fail
  simp only [e7]
  clear a0 a1 a2 halt HA e1 e2 e3 e4 e5 e6 e7
  have hB : (0 ≤ i ∧ i ≤ j ∧ j ≤ k ∧ k ≤ n) ∧ n ≤ 4398046511104 := HB.out
  refine (mfold i j (by omega) (by omega) HT.out HG.out).mono ?_
  rintro e w7 ⟨rfl, hx⟩
  rw [Xij.out]
  replace HX := hid_mk (Ext.trans _ _ _ HX.out hx)
  replace HT := hid_mk (HT.out.ext hx)
  clear hx
  go_wp2_with fail
  refine (mfold j k (by omega) (by omega) HT.out HG.out).mono ?_
  rintro e w8 ⟨rfl, hx⟩
  rw [Xjk.out]
  replace HX := hid_mk (Ext.trans _ _ _ HX.out hx)
  replace HT := hid_mk (HT.out.ext hx)
  clear hx
  go_wp2_with fail
  refine (rjoin_any xij xjk _).mono ?_
  rintro e w9 ⟨rfl, hx⟩
  rw [A1.out]
  replace HX := hid_mk (Ext.trans _ _ _ HX.out hx)
  replace HT := hid_mk (HT.out.ext hx)
  clear hx
  go_wp2_with fail
  refine (mfold i k (by omega) (by omega) HT.out HG.out).mono ?_
  rintro e w10 ⟨rfl, hx⟩
  rw [Xik.out]
  replace HX := hid_mk (Ext.trans _ _ _ HX.out hx)
  replace HT := hid_mk (HT.out.ext hx)
  clear hx
  go_wp2_with fail
  refine (mfold 0 i (by omega) (by omega) HT.out HG.out).mono ?_
  rintro e w11 ⟨rfl, hx⟩
  rw [Xoi.out]
  replace HX := hid_mk (Ext.trans _ _ _ HX.out hx)
  replace HT := hid_mk (HT.out.ext hx)
  clear hx
  go_wp2_with fail
  refine (mfold i k (by omega) (by omega) HT.out HG.out).mono ?_
  rintro e w12 ⟨rfl, hx⟩
  rw [Xik.out]
  replace HX := hid_mk (Ext.trans _ _ _ HX.out hx)
  replace HT := hid_mk (HT.out.ext hx)
  clear hx
  go_wp2_with fail
  refine (rjoin_any xoi xik _).mono ?_
  rintro e w13 ⟨rfl, hx⟩
  rw [A2.out]
  replace HX := hid_mk (Ext.trans _ _ _ HX.out hx)
  replace HT := hid_mk (HT.out.ext hx)
  clear hx
  go_wp2_with fail
  refine (mfold k (n : Int) (by omega) (by omega) HT.out HG.out).mono ?_
  rintro e w14 ⟨rfl, hx⟩
  rw [Xkn.out]
  replace HX := hid_mk (Ext.trans _ _ _ HX.out hx)
  replace HT := hid_mk (HT.out.ext hx)
  clear hx
  go_wp2_with fail
  refine (rjoin_any xok xkn _).mono ?_
  rintro e w15 ⟨rfl, hx⟩
  rw [A3.out]
  replace HX := hid_mk (Ext.trans _ _ _ HX.out hx)
  replace HT := hid_mk (HT.out.ext hx)
  clear hx
  go_wp2_with fail
  refine (mfold 0 (n : Int) (by omega) (by omega) HT.out HG.out).mono ?_
  rintro e w16 ⟨rfl, hx⟩
  rw [Xon.out]
  replace HX := hid_mk (Ext.trans _ _ _ HX.out hx)
  replace HT := hid_mk (HT.out.ext hx)
  clear hx
  go_wp2_with fail
  refine (mfold j j (by omega) (by omega) HT.out HG.out).mono ?_
  rintro e w17 ⟨rfl, hx⟩
  rw [Xjj.out]
  replace HX := hid_mk (Ext.trans _ _ _ HX.out hx)
  replace HT := hid_mk (HT.out.ext hx)
  clear hx
  go_wp2_with fail
  refine (rzero_any _).mono ?_
  rintro e w18 ⟨rfl, hx⟩
  have ejj : xjj = (1, 0) := Xjj.out.symm.trans A4.out
  subst ejj
  replace HX := hid_mk (Ext.trans _ _ _ HX.out hx)
  replace HT := hid_mk (HT.out.ext hx)
  clear hx
  go_wp2_with fail
  refine (mrank key HT.out HG.out).mono ?_
  rintro e w19 ⟨rfl, rfl⟩
  obtain ⟨rk, hrk⟩ : ∃ rk, cnt key T.rows = rk := ⟨_, rfl⟩
  have hrn : rk ≤ n := by have h1 := cnt_le (k := key) T.rows; rw [Tr.rows_len, HN.out, hrk] at h1; exact h1
  have HRN := hid_mk hrn
  have hr1 : ¬ (rk : Int) < 0 := by omega
  have hr2 : ¬ (n : Int) < (rk : Int) := by omega
  have HR2 := hid_mk (show decide (n < rk) = false from decide_eq_false (by omega))
  have hlr : T.rows.length = n := by rw [Tr.rows_len, HN.out]
  have HLR := hid_mk hlr
  rw [hrk]
  have HRK := hid_mk hrk
  clear hrn hrk hB hlr
  go_wp2_with fail
  simp only [HR2.out, Bool.or_false]
  go_loopw [105] (fun c wr => ∃ m : Nat, m ≤ n ∧ c = .int .i64 (m : Int) ∧ Ext W wr ∧ MTree wr tb T) (fun c _ => n - (intOf c).toNat)
  case atStart => exact ⟨0, Nat.zero_le _, rfl, HX.out, HT.out⟩
  case round =>
    obtain ⟨m, hm, rfl, hxr, hTr⟩ := hrel
    have HXR := hid_mk hxr
    have HTR := hid_mk hTr
    clear hxr hTr
    by_cases hlt : m < n
    · obtain ⟨r, h1, h2, h3, h5⟩ := parts_at HG.out key (m := m) (by rw [HN.out]; exact hlt)
      rw [HRK.out] at h5
      have H1 := hid_mk h1
      have H2 := hid_mk h2
      have H3 := hid_mk h3
      have hw1 : wrap64 ((m : Int) + 1) = (m : Int) + 1 := w64in (by have := HB.out; omega)
      have hm1 : (m : Int) < (n : Int) := by omega
      clear h1 h2 h3
      go_wp2_with fail
      refine (mat (m : Int) (by have := HB.out; omega) HTR.out HG.out).mono ?_
      rintro e w20 ⟨rfl, hx⟩
      rw [H1.out]
      simp only [atV1, Option.map_some, Option.getD_some, Option.isSome_some]
      replace HXR := hid_mk (Ext.trans _ _ _ HXR.out hx)
      replace HTR := hid_mk (HTR.out.ext hx)
      clear hx
      go_wp2_with fail
      refine (mget r.1 HTR.out).mono ?_
      rintro e w21 ⟨rfl, rfl⟩
      rw [H2.out]
      simp only [Option.getD_some, Option.isSome_some]
      go_wp2_with fail
      refine (mrank r.1 HTR.out HG.out).mono ?_
      rintro e w22 ⟨rfl, rfl⟩
      rw [H3.out]
      by_cases hq : (m : Int) < (rk : Int)
      · rw [decide_eq_true hq] at h5
        go_wp2
        go_roundw
        case rel => exact ⟨m + 1, Nat.succ_le_of_lt hlt, by go_num, HXR.out, HTR.out⟩
        case measure => simp only [hw1]; clear hw1; simp [intOf]; omega
      · rw [decide_eq_false hq] at h5
        go_wp2
        go_roundw
        case rel => exact ⟨m + 1, Nat.succ_le_of_lt hlt, by go_num, HXR.out, HTR.out⟩
        case measure => simp only [hw1]; clear hw1; simp [intOf]; omega
    · obtain rfl : m = n := by omega
      go_wp2_with fail
      refine (mat (rk : Int) (by have := HRN.out; have := HB.out; omega) HTR.out HG.out).mono ?_
      rintro e w23 ⟨rfl, hx⟩
      replace HXR := hid_mk (Ext.trans _ _ _ HXR.out hx)
      replace HTR := hid_mk (HTR.out.ext hx)
      clear hx
      obtain ⟨y, hy⟩ : ∃ y, T.at_ (rk : Int) = y := ⟨_, rfl⟩
      obtain ⟨z, hz⟩ : ∃ z, T.get key = z := ⟨_, rfl⟩
      have hyz := parts_end HG.out key
      rw [HRK.out, hy, hz] at hyz
      rw [hy]
      simp only [atV1]
      generalize (Option.map (fun r : ByteArray × Int => r.1) y).getD ⟨#[]⟩ = y1 at *
      generalize (Option.map (fun r : ByteArray × Int => r.2) y).getD zV1 = y2
      generalize y.isSome = y3 at *
      have HYZ := hid_mk hyz
      clear hyz
      go_wp2_with fail
      refine (mget key HTR.out).mono ?_
      rintro e w24 ⟨rfl, rfl⟩
      rw [hz, HYZ.out]
      generalize z.getD 0 = z1
      cases y3 with
      | false =>
        simp only [Bool.false_and]
        go_wp2
        go_ret
        exact ⟨rfl, HXR.out⟩
      | true =>
        simp only [Bool.true_and]
        go_wp2
        go_ret
        exact ⟨rfl, HXR.out⟩
end Go.Proofs.Ytgglbohcnlcagaa
