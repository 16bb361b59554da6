/- Texts, joined by writing one behind the other: the walk of TreeTexts. -/
import Derived.Test.YtgglbohcnlcagaaTY
namespace Go.Proofs.Ytgglbohcnlcagaa
open Go.RowKit
set_option maxHeartbeats 2000000
set_option maxRecDepth 100000
set_option linter.unusedSimpArgs false
set_option linter.unusedVariables false

theorem tot_le (L : List P2) (m : Nat) : tot (L.take m) ≤ tot L := by unfold tot; rw [List.map_take]; exact sum_take_le _ _
theorem seq_self (a : ByteArray) : (a.toList == a.toList) = true := by simp
theorem treeTexts_walk (L : List P2) (v0 : Value) (i j : Int) (W : World) (hL : PairsSl W v0 L)
    (hi : -9223372036854775808 ≤ i ∧ i ≤ 9223372036854775807) (hj : -9223372036854775808 ≤ j ∧ j ≤ 9223372036854775807) :
    Calls Try.prog 8 #[v0, .int .i64 i, .int .i64 j] W fun e w' => e = .returned (.bool true) ∧ Ext W w' := by
  obtain ⟨a, c, rfl, hlc, hl63, hcells⟩ := hL
  have HC := hid_mk hcells
  have HLC := hid_mk (And.intro hlc hl63)
  have HI := hid_mk (And.intro hi hj)
  clear hcells hlc hl63 hi hj
  go_enter Try.func8, Try.ntmps8
  go_wp2_with fail
  go_loopw [7, 25] (fun z x wr => ∃ m : Nat, m ≤ L.length ∧ x = .int .i64 (m : Int) ∧ z = .int .i64 (tot (L.take m) : Int) ∧ tot (L.take m) ≤ 2147483647 ∧ Ext W wr) (fun _ x _ => L.length - (intOf x).toNat)
  case atStart => exact ⟨0, Nat.zero_le _, rfl, by simp [tot], by simp [tot], Ext.refl _⟩
  case round =>
    obtain ⟨m, hm, rfl, rfl, ht, hx⟩ := hrel
    have HXR := hid_mk hx
    clear hx
    by_cases hlt : m < L.length
    · obtain ⟨b, o, rfl, hrows⟩ := HC.out (by omega)
      obtain ⟨r0, r1⟩ := hrows.xt (Xt.of HXR.out : Xt none _ _) (by simp) m hlt
      have hbl := cell_lt r0
      have HTK := hid_mk (tot_take hlt)
      clear hrows
      generalize hz : tot (L.take m) = z at *
      have hm63 : (m : Int) < (L.length : Int) := by omega
      have hm0 : (0 : Int) ≤ (m : Int) := by omega
      generalize hs : L[m].2.size = sz at *
      obtain ⟨q, hq⟩ : ∃ q : Int, ((2147483647 : Int) - z).tdiv 2 = q := ⟨_, rfl⟩
      have hq' : q = (2147483647 - (z : Int)) / 2 := by rw [← hq, Int.tdiv_eq_ediv_of_nonneg (by omega)]
      by_cases hbig : q < (sz : Int)
      · obtain ⟨e1, e3⟩ : wrap64 ((2147483647 : Int) - z) = 2147483647 - z ∧ wrap64 q = q := ⟨w64in (by omega), w64in (by omega)⟩
        clear hq'
        go_wp2
        go_ret
        exact ⟨rfl, Ext.trans _ _ _ HXR.out (by (repeat (first | exact Ext.refl _ | apply Ext.drew_left | apply Ext.drew | apply Ext.alloc | (refine Ext.setX ?_ (by simp)))))⟩
      · have HN := hid_mk (show z + sz ≤ 2147483647 by omega)
        obtain ⟨e3, e1, e2, hw1⟩ : wrap64 q = q ∧ wrap64 ((2147483647 : Int) - z) = 2147483647 - z ∧ wrap64 ((z : Int) + sz) = (z : Int) + sz ∧ wrap64 ((m : Int) + 1) = (m : Int) + 1 := ⟨w64in (by omega), w64in (by omega), w64in (by omega), w64in (by have := HLC.out.2; omega)⟩
        clear hq'
        go_wp2
        go_roundw
        case rel => exact ⟨m + 1, Nat.succ_le_of_lt hlt, congrArg (Value.int .i64) hw1, by rw [HTK.out]; exact congrArg (Value.int .i64) (e2.trans (Int.natCast_add z sz).symm), by rw [HTK.out]; exact HN.out, Ext.trans _ _ _ HXR.out (by (repeat (first | exact Ext.refl _ | apply Ext.drew_left | apply Ext.drew | apply Ext.alloc | (refine Ext.setX ?_ (by simp)))))⟩
        case measure => simp only [hw1]; clear hw1 e1 e2 e3; simp [intOf]; omega
    · obtain rfl : m = L.length := by omega
      rw [List.take_length] at ht ⊢
      have HTOT := hid_mk ht
      generalize hzz : tot L = zz at *
      have hlt' : ¬ ((L.length : Nat) : Int) < (L.length : Int) := by omega
      clear ht
      go_wp2_with fail
      refine (shown_any _).mono ?_
      rintro e w1 ⟨rfl, hx⟩
      replace HXR := hid_mk (Ext.trans _ _ _ HXR.out hx)
      clear hx
      go_wp2_with fail
      refine (new2_any e0 44 #[] _).mono ?_
      rintro e w2 ⟨tb, rfl, hb, hT, hX⟩
      have HB := hid_mk (show W.heap.size ≤ tb by have := HXR.out.below.size; omega)
      replace HXR := hid_mk (Ext.trans _ _ _ HXR.out hX)
      have H : Hid (STree w2 tb .nil) := hid_mk ⟨_, hT, rfl⟩
      clear hb hT hX
      go_wp2_with fail
      go_loopw [47] (fun x wr => ∃ m : Nat, m ≤ L.length ∧ x = .int .i64 (m : Int) ∧ STree wr tb (puts2 (L.take m) .nil) ∧ Ext W wr) (fun x _ => L.length - (intOf x).toNat)
      case atStart => exact ⟨0, Nat.zero_le _, rfl, H.out, HXR.out⟩
      case round =>
        obtain ⟨m, hm, rfl, hT, hx⟩ := hrel
        have HT := hid_mk hT
        replace HXR := hid_mk hx
        clear hT hx
        by_cases hlt : m < L.length
        · obtain ⟨b, o, rfl, hrows⟩ := HC.out (by omega)
          obtain ⟨r0, r1⟩ := hrows.xt (Xt.of HXR.out : Xt none _ _) (by simp) m hlt
          have hbl := cell_lt r0
          clear hrows
          have HP := hid_mk (puts2_take hlt (.nil : T2))
          have hg := good2_puts L m (by omega)
          have HPS := hid_mk (show (puts2 (L.take m) (.nil : T2)).size + 1 ≤ 4611686018427387904 by have := hg.sz; have := HLC.out.2; omega)
          have HPW := hid_mk (show (puts2 (L.take m) (.nil : T2)).wt ByteArray.size + L[m].2.size ≤ 9223372036854775807 by
            have h1 := hg.wt; have h2 := tot_take hlt; have h3 := tot_le L (m + 1); have h4 := HTOT.out; rw [hzz] at h3; omega)
          have hm63 : (m : Int) < (L.length : Int) := by omega
          have hm0 : (0 : Int) ≤ (m : Int) := by omega
          have hw1 : wrap64 ((m : Int) + 1) = (m : Int) + 1 := w64in (by have := HLC.out.2; omega)
          clear hg
          go_wp2_with fail
          refine (sput L[m].1 L[m].2 (HT.out.ext (by (repeat (first | exact Ext.refl _ | apply Ext.drew_left | apply Ext.drew | apply Ext.alloc | (refine Ext.setX ?_ (by simp)))))) HPS.out HPW.out).mono ?_
          rintro e w3 ⟨rfl, hT3, hx3⟩
          have HT3 := hid_mk hT3
          have HX3 := hid_mk (Xl.ext (Ext.trans _ _ _ HXR.out (by (repeat (first | exact Ext.refl _ | apply Ext.drew_left | apply Ext.drew | apply Ext.alloc | (refine Ext.setX ?_ (by simp)))))) hx3 (by simpa using HB.out))
          clear hT3 hx3
          generalize (puts2 (L.take m) (.nil : T2)).get L[m].1 = gv
          cases gv with
          | none =>
            simp only [Option.getD_none, Option.isSome_none]
            go_wp2
            go_roundw
            case rel => exact ⟨m + 1, Nat.succ_le_of_lt hlt, congrArg (Value.int .i64) hw1, by rw [HP.out]; exact HT3.out, HX3.out⟩
            case measure => simp only [hw1]; clear hw1; simp [intOf]; omega
          | some g =>
            simp only [Option.getD_some, Option.isSome_some]
            go_wp2
            go_roundw
            case rel => exact ⟨m + 1, Nat.succ_le_of_lt hlt, congrArg (Value.int .i64) hw1, by rw [HP.out]; exact HT3.out, HX3.out⟩
            case measure => simp only [hw1]; clear hw1; simp [intOf]; omega
        · obtain rfl : m = L.length := by omega
          rw [List.take_length] at HT
          have hg := good2_puts L L.length (Nat.le_refl _)
          rw [List.take_length, hzz] at hg
          have HG := hid_mk hg
          clear hg
          obtain ⟨T, hTT⟩ : ∃ T, puts2 L (.nil : T2) = T := ⟨_, rfl⟩
          rw [hTT] at HT HG
          clear hTT
          obtain ⟨n, hn⟩ : ∃ n : Nat, T.size = n := ⟨_, rfl⟩
          have HN := hid_mk hn
          have HNB := hid_mk (show n ≤ 4398046511104 by have := HG.out.sz; have := HLC.out.2; omega)
          clear hn
          have hw0 : ¬ ((L.length : Nat) : Int) < (L.length : Int) := by omega
          go_wp2_with fail
          refine (slen HT.out).mono ?_
          rintro e w4 ⟨rfl, rfl⟩
          rw [HN.out]
          go_wp2_with fail
          go_loopw [15, 16, 71] (fun y z x wr => ∃ m : Nat, m ≤ n ∧ x = .int .i64 (m : Int) ∧ y = .string (cc (T.sums.take m)) ∧ z = .string (cc (sl (T.sums.take m) i.toNat j.toNat)) ∧ STree wr tb T ∧ Ext W wr) (fun _ _ x _ => n - (intOf x).toNat)
          case atStart => exact ⟨0, Nat.zero_le _, rfl, rfl, by simp [sl, cc], HT.out, HXR.out⟩
          case round =>
            obtain ⟨m, hm, rfl, rfl, rfl, hT, hx⟩ := hrel
            replace HT := hid_mk hT
            replace HXR := hid_mk hx
            clear hT hx
            by_cases hlt : m < n
            · obtain ⟨k, t, h1, h2, h3, h4⟩ := texts_at HG.out (m := m) (by rw [HN.out]; exact hlt)
              have H1 := hid_mk h1
              have H2 := hid_mk h2
              have HSA := hid_mk (show cc (T.sums.take (m + 1)) = cc (T.sums.take m) ++ t by rw [List.take_succ_eq_append_getElem h3, cc_snoc, h4])
              have HSB := hid_mk (show cc (sl (T.sums.take (m + 1)) i.toNat j.toNat) = cc (sl (T.sums.take m) i.toNat j.toNat ++ (if i.toNat ≤ m ∧ m < j.toNat then [t] else [])) by rw [sl_step _ h3, h4])
              have hs1 : (cc (T.sums.take (m + 1))).size ≤ 2147483647 := by
                rw [cc_size, List.map_take]
                have h5 := sum_take_le (T.sums.map ByteArray.size) (m + 1)
                have h6 := HG.out.wt
                have h7 := HTOT.out
                rw [wt_sums] at h6
                omega
              rw [HSA.out, ByteArray.size_append] at hs1
              have hs2 : (cc (sl (T.sums.take m) i.toNat j.toNat)).size ≤ (cc (T.sums.take m)).size := by rw [cc_size, cc_size]; exact sl_sum _ _ _
              generalize hA : cc (T.sums.take m) = A at *
              generalize hBB : cc (sl (T.sums.take m) i.toNat j.toNat) = B at *
              have hmx : IntKind.i64.max = 9223372036854775807 := rfl
              have HMX := hid_mk (show IntKind.i64.max = 9223372036854775807 ∧ A.size + t.size ≤ 2147483647 ∧ B.size ≤ A.size from ⟨hmx, hs1, hs2⟩)
              have hc1 : ¬ ((A.size + t.size : Nat) : Int) > IntKind.i64.max := by rw [hmx]; omega
              have hc2 : ¬ ((B.size + t.size : Nat) : Int) > IntKind.i64.max := by rw [hmx]; omega
              have hm1 : (m : Int) < (n : Int) := by omega
              have hw1 : wrap64 ((m : Int) + 1) = (m : Int) + 1 := w64in (by have := HNB.out; omega)
              have HBB := hid_mk hBB
              clear h1 h2 h3 h4 hs1 hs2 hmx hA hBB
              go_wp2_with fail
              refine (sat2 (m : Int) (by have := HNB.out; omega) HT.out (by have := HN.out; have := HNB.out; omega)).mono ?_
              rintro e w5 ⟨rfl, hx⟩
              rw [H1.out]
              simp only [atV2, encV2, Option.map_some, Option.getD_some, Option.isSome_some]
              replace HXR := hid_mk (Ext.trans _ _ _ HXR.out hx)
              replace HT := hid_mk (HT.out.ext hx)
              clear hx
              go_wp2_with fail
              refine (sget k HT.out).mono ?_
              rintro e w6 ⟨rfl, rfl⟩
              rw [H2.out]
              simp only [Option.getD_some, Option.isSome_some]
              by_cases q1 : i ≤ (m : Int)
              case pos =>
                by_cases q2 : (m : Int) < j
                case pos =>
                  go_wp2
                  all_goals first | (show False; have h8 := HMX.out; clear hw1; omega) | skip
                  go_roundw
                  case rel => exact ⟨m + 1, Nat.succ_le_of_lt hlt, congrArg (Value.int .i64) hw1, by rw [HSA.out], by rw [HSB.out, if_pos (show i.toNat ≤ m ∧ m < j.toNat by omega)]; first | (rw [cc_snoc, HBB.out]) | (rw [List.append_nil, HBB.out]), HT.out, HXR.out⟩
                  case measure => simp only [hw1]; clear hw1 hc1 hc2; simp [intOf]; omega
                case neg =>
                  go_wp2
                  all_goals first | (show False; have h8 := HMX.out; clear hw1; omega) | skip
                  go_roundw
                  case rel => exact ⟨m + 1, Nat.succ_le_of_lt hlt, congrArg (Value.int .i64) hw1, by rw [HSA.out], by rw [HSB.out, if_neg (show ¬ (i.toNat ≤ m ∧ m < j.toNat) by omega)]; first | (rw [cc_snoc, HBB.out]) | (rw [List.append_nil, HBB.out]), HT.out, HXR.out⟩
                  case measure => simp only [hw1]; clear hw1 hc1 hc2; simp [intOf]; omega
              case neg =>
                go_wp2
                all_goals first | (show False; have h8 := HMX.out; clear hw1; omega) | skip
                go_roundw
                case rel => exact ⟨m + 1, Nat.succ_le_of_lt hlt, congrArg (Value.int .i64) hw1, by rw [HSA.out], by rw [HSB.out, if_neg (show ¬ (i.toNat ≤ m ∧ m < j.toNat) by omega)]; first | (rw [cc_snoc, HBB.out]) | (rw [List.append_nil, HBB.out]), HT.out, HXR.out⟩
                case measure => simp only [hw1]; clear hw1 hc1 hc2; simp [intOf]; omega
            · obtain rfl : m = n := by omega
              have hf : cc (sl T.sums (0 : Int).toNat (min ((m : Nat) : Int).toNat T.size)) = cc (T.sums.take m) := by
                rw [HN.out]
                simp [sl]
              have hg : cc (sl T.sums i.toNat (min j.toNat T.size)) = cc (sl (T.sums.take m) i.toNat j.toNat) := by
                have : T.sums.take m = T.sums := List.take_of_length_le (by rw [Tr.sums_len, HN.out]; exact Nat.le_refl _)
                rw [this]
                unfold sl
                by_cases h : j.toNat ≤ T.size
                · rw [Nat.min_eq_left h]
                · rw [Nat.min_eq_right (by omega), List.take_of_length_le (by rw [Tr.sums_len]; exact Nat.le_refl _), List.take_of_length_le (by rw [Tr.sums_len]; omega)]
              have HF := hid_mk hf
              have HGG := hid_mk hg
              clear hf hg
              generalize cc (T.sums.take m) = A at *
              generalize cc (sl (T.sums.take m) i.toNat j.toNat) = B at *
              have hsz : T.size ≤ 4398046511104 := by have := HN.out; have := HNB.out; omega
              have hwt : T.wt ByteArray.size ≤ 9223372036854775807 := by have := HG.out.wt; have := HTOT.out; omega
              have HSZ := hid_mk (And.intro hsz hwt)
              clear hsz hwt
              go_wp2_with fail
              refine (slen HT.out).mono ?_
              rintro e w7 ⟨rfl, rfl⟩
              rw [HN.out]
              go_wp2_with fail
              refine (sfold 0 (m : Int) (by omega) (by have := HNB.out; omega) HT.out HSZ.out.1 HSZ.out.2).mono ?_
              rintro e w8 ⟨rfl, hx⟩
              rw [HF.out]
              replace HXR := hid_mk (Ext.trans _ _ _ HXR.out hx)
              replace HT := hid_mk (HT.out.ext hx)
              clear hx
              go_wp2_with fail
              refine (sfold i j HI.out.1 HI.out.2 HT.out HSZ.out.1 HSZ.out.2).mono ?_
              rintro e w9 ⟨rfl, hx⟩
              rw [HGG.out]
              replace HXR := hid_mk (Ext.trans _ _ _ HXR.out hx)
              clear hx
              go_wp2
              go_ret
              exact ⟨rfl, HXR.out⟩
end Go.Proofs.Ytgglbohcnlcagaa
