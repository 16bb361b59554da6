/- Of alarms that are set one behind the other the last one of each name counts: the walk of TimerLast. -/
import Derived.Test.YtiimoaplhhnklaaSH
namespace Go.Proofs.Ytiimoaplhhnklaa
open Go.RowKit
set_option maxHeartbeats 4000000
set_option maxRecDepth 100000
set_option linter.unusedSimpArgs false
set_option linter.unusedVariables false
theorem en_TimerLast : Enters Try.prog 5 := ⟨_, Try.func5, by kernel_rfl, rfl⟩
attribute [local go_sem ↓] neq_nm eql_nm

theorem back_none {P : List (Nm × Int)} {i : Nat} (h : P.length ≤ i) : back (P.drop i) = back (P.drop (i + 1)) := by
  rw [List.drop_eq_nil_of_le h, List.drop_eq_nil_of_le (by omega)]
theorem back_step {P : List (Nm × Int)} {i : Nat} (h : i < P.length) {n : Nm} {t : Int} (e : P[i] = (n, t)) :
    back (P.drop i) = if badT t then back (P.drop (i + 1)) else if (atN n (back (P.drop (i + 1)))).isSome then back (P.drop (i + 1)) else setA n t (back (P.drop (i + 1))) := by
  rw [List.drop_eq_getElem_cons h, e]; rfl
theorem timerLast_walk (N : List Nm) (T : List Int) (v0 v1 : Value) (W : World) (hN : NamesSl W v0 N) (hT : IntsSl W v1 T) :
    Calls Try.prog 5 #[v0, v1] W fun e w' => e = .returned (.bool true) ∧ Ext W w' := by
  obtain ⟨an, cn, rfl, hnc, hn47, hncl⟩ := hN
  obtain ⟨at_, ct, rfl, htc, ht47, htr, htcl⟩ := hT
  have HNC := hid_mk hncl
  have HTC := hid_mk htcl
  have HTR := hid_mk htr
  have HNB := hid_mk (And.intro hnc (And.intro hn47 (And.intro htc ht47)))
  clear hncl htcl htr hnc hn47 htc ht47
  by_cases hbig : (4096 : Int) < (N.length : Int)
  · go_enter Try.func5, Try.ntmps5
    go_wp2
    go_ret
    exact ⟨rfl, Ext.refl _⟩
  have hN4 : N.length ≤ 4096 := by omega
  obtain ⟨P, hP⟩ : ∃ P, N.zip T = P := ⟨_, rfl⟩
  have hPl : P.length = min N.length T.length := by rw [← hP, List.length_zip]
  have hPg : ∀ i, (hi : i < P.length) → ∃ h1 : i < N.length, ∃ h2 : i < T.length, P[i] = (N[i], T[i]) := fun i hi => by
    have h1 : i < N.length := by omega
    have h2 : i < T.length := by omega
    refine ⟨h1, h2, ?_⟩
    subst hP
    simp
  have HPL := hid_mk hPl
  have HPG := hid_mk hPg
  have HN4 := hid_mk hN4
  clear hP hPl hPg
  go_enter Try.func5, Try.ntmps5
  go_wp2_with fail
  refine (tnew_any W).mono ?_
  rintro e w1 ⟨ta, ma, rfl, ha1, ha2, hTa, hx1⟩
  go_wp2_with fail
  refine (tnew_any w1).mono ?_
  rintro e w2 ⟨tb, mb, rfl, hb1, hb2, hTb, hx2⟩
  have htwo : Two W.heap.size w2 ta ma (.slice none 0 0) [] tb mb (.slice none 0 0) [] := by
    have hs := hx1.below.size
    refine ⟨hTa.ext hx2, hTb.lower hs, fun x hx hy => ?_⟩
    have h1 := (hTa.fp_lt x hx).2
    have h2 := (hTb.fp_lt x hy).1
    omega
  have H2 := hid_mk htwo
  have HX2 := hid_mk (Ext.trans _ _ _ hx1 hx2)
  clear ha1 ha2 hTa hx1 hb1 hb2 hTb hx2 htwo
  go_wp2_with fail
  go_loopw [8] (fun x wr => ∃ m : Nat, m ≤ P.length ∧ x = .int .i64 (m : Int) ∧ ∃ va vb, Two W.heap.size wr ta ma va (runL (P.take m) []) tb mb vb [] ∧ Ext W wr) (fun x _ => P.length - (intOf x).toNat)
  case atStart => exact ⟨0, Nat.zero_le _, rfl, _, _, H2.out, HX2.out⟩
  case round =>
    clear H2 HX2
    obtain ⟨m, hm, rfl, va, vb, htw, hx⟩ := hrel
    have HTW := hid_mk htw
    have HXR := hid_mk hx
    clear htw
    by_cases hlt : m < P.length
    · obtain ⟨h1, h2, hpe⟩ := HPG.out m hlt
      obtain ⟨nb, no, rfl, hncl⟩ := HNC.out (by omega)
      obtain ⟨tb', to, rfl, htcl⟩ := HTC.out (by omega)
      obtain ⟨n0, n1, n2⟩ := (hncl m h1).ext hx
      have t0 := cell_ext hx (htcl m h2)
      have hnl := cell_lt n0
      have htl := cell_lt t0
      have HSTEP := hid_mk (runL_take hlt)
      have hlen := runL_len (P.take m) []
      have HLEN := hid_mk (show (runL (P.take m) []).length ≤ 100000000000 by rw [List.length_take] at hlen; have := HPL.out; have := HN4.out; simp at hlen; omega)
      rw [hpe] at HSTEP
      have hm1 : (m : Int) < (N.length : Int) := by omega
      have hm2 : (m : Int) < (T.length : Int) := by omega
      have hm0 : (0 : Int) ≤ (m : Int) := by omega
      obtain ⟨nm, hnm⟩ : ∃ nm, N[m] = nm := ⟨_, rfl⟩
      obtain ⟨tm, htm⟩ : ∃ tm, T[m] = tm := ⟨_, rfl⟩
      rw [hnm] at n0 n1 n2 HSTEP
      rw [htm] at t0 HSTEP
      have hw1 : wrap64 ((m : Int) + 1) = (m : Int) + 1 := w64in (by have := HN4.out; omega)
      have HW1 := hid_mk hw1
      clear hx hncl htcl hpe hnm htm hlen hw1
      go_wp2_with fail
      refine wp_region_held_planC Ext (fun i => i != 9) (fun i => [0, 1, 2, 3, 5, 6, 7].contains i) (.quiet 0 (.quiet 1 (.quiet 2 (.quiet 3 (.quiet 4 (.quiet 5 (.quiet 6 (.quiet 7 (.quiet 8 (.alt 9 .done .stop)))))))))) (by kernel_rfl) (by kernel_rfl) Ext.refl Ext.trans (by intro c a w d v h; cases d <;> exact h) (fun ops HO => ?_)
      refine planC_calm _ (hi_of HO rfl) rfl (fun w' => by go_simp; rfl) ?_
      simp only [Act.put, List.setIfInBounds_toArray, List.set_cons_succ, List.set_cons_zero]
      refine planC_calm _ (hi_of HO rfl) rfl (fun w' => by go_simp; rfl) ?_
      simp only [Act.put, List.setIfInBounds_toArray, List.set_cons_succ, List.set_cons_zero]
      refine planC_calm _ (hi_of HO rfl) rfl (fun w' => by go_simp; rfl) ?_
      simp only [Act.put, List.setIfInBounds_toArray, List.set_cons_succ, List.set_cons_zero]
      refine planC_calm _ (hi_of HO rfl) rfl (fun w' => by go_simp; rfl) ?_
      simp only [Act.put, List.setIfInBounds_toArray, List.set_cons_succ, List.set_cons_zero]
      refine planC_read _ (hi_of HO rfl) rfl rfl (fun w' hE => by (repeat (with_reducible replace hE := Ext.unD hE)); have hcE := hE.hc; clear hE; go_simp; rfl) ?_
      simp only [Act.put, List.setIfInBounds_toArray, List.set_cons_succ, List.set_cons_zero]
      refine planC_calm _ (hi_of HO rfl) rfl (fun w' => by go_simp; rfl) ?_
      simp only [Act.put, List.setIfInBounds_toArray, List.set_cons_succ, List.set_cons_zero]
      refine planC_calm _ (hi_of HO rfl) rfl (fun w' => by go_simp; rfl) ?_
      simp only [Act.put, List.setIfInBounds_toArray, List.set_cons_succ, List.set_cons_zero]
      refine planC_calm _ (hi_of HO rfl) rfl (fun w' => by go_simp; rfl) ?_
      simp only [Act.put, List.setIfInBounds_toArray, List.set_cons_succ, List.set_cons_zero]
      refine planC_read _ (hi_of HO rfl) rfl rfl (fun w' hE => by (repeat (with_reducible replace hE := Ext.unD hE)); have hcE := hE.hc; clear hE; go_simp; rfl) ?_
      simp only [Act.put, List.setIfInBounds_toArray, List.set_cons_succ, List.set_cons_zero]
      refine planC_call1 en_TmSet (hi_of HO rfl) rfl rfl (by go_simp; rfl) (by exact tset_any (HTW.out.a.ext (by (repeat (first | exact Ext.refl _ | apply Ext.drew_left | apply Ext.drew | apply Ext.alloc)))) nm tm HLEN.out) ?_
      rintro e v9 ⟨rfl, hp9⟩
      obtain ⟨va', htw9, hx9⟩ := (HTW.out.ext (by (repeat (first | exact Ext.refl _ | apply Ext.drew_left | apply Ext.drew | apply Ext.alloc)))).wa hp9
      have HTW9 := hid_mk htw9
      have HX9 := hid_mk (hx9 W (Nat.le_refl _) (Ext.trans _ _ _ HXR.out (by (repeat (first | exact Ext.refl _ | apply Ext.drew_left | apply Ext.drew | apply Ext.alloc)))))
      clear htw9 hx9 hp9
      refine ⟨_, rfl, (fun h => absurd h (by decide)), ?_⟩
      simp only [Act.put, List.setIfInBounds_toArray, List.set_cons_succ, List.set_cons_zero]
      refine planC_done ?fin101
      go_wp2
      go_roundw
      case rel => exact ⟨m + 1, Nat.succ_le_of_lt hlt, (by first | exact congrArg (Value.int .i64) HW1.out | rfl), va', vb, by rw [HSTEP.out]; exact HTW9.out, HX9.out⟩
      case measure => (try simp only [HW1.out]); simp [intOf]; omega
    · obtain rfl : m = P.length := by omega
      rw [List.take_length] at HTW
      have hex : ¬ ((P.length : Nat) : Int) < (N.length : Int) ∨ (((P.length : Nat) : Int) < (N.length : Int) ∧ ¬ ((P.length : Nat) : Int) < (T.length : Int)) := by have := HPL.out; omega
      clear hx hm hlt
      rcases hex with hq1 | ⟨hq1, hq2⟩
      ·
        have hw0 : wrap64 ((N.length : Int) - 1) = (N.length : Int) - 1 := w64in (by have := HN4.out; omega)
        go_wp2_with fail
        clear hw0 hq1
        go_loopw [7, 9] (fun z x wi => ∃ j : Nat, j ≤ N.length ∧ x = .int .i64 ((j : Int) - 1) ∧ z = .int .i64 ((back (P.drop j)).length : Int) ∧ ∃ va' vb', Two W.heap.size wi ta ma va' (runL P []) tb mb vb' (back (P.drop j)) ∧ Ext W wi) (fun _ x _ => (intOf x + 1).toNat)
        case atStart =>
          have hd : P.drop N.length = [] := List.drop_eq_nil_of_le (by have := HPL.out; omega)
          exact ⟨N.length, Nat.le_refl _, rfl, by rw [hd]; rfl, va, vb, by rw [hd]; exact HTW.out, HXR.out⟩
        case round =>
          clear HXR HTW
          obtain ⟨j, hj, rfl, rfl, va', vb', htw, hx⟩ := hrel
          have HTW2 := hid_mk htw
          have HXI := hid_mk hx
          clear htw
          rcases Nat.eq_zero_or_pos j with h0 | hpos
          · subst h0
            have hneg : ¬ (0 : Int) ≤ ((0 : Nat) : Int) - 1 := by omega
            rw [List.drop_zero] at HTW2 ⊢
            rw [back_is P] at HTW2 ⊢
            have hLl := runL_len P []
            have hL4 : (runL P []).length ≤ 4096 := by simp at hLl; have := HPL.out; have := HN4.out; omega
            have hok : Ok (runL P []) := runL_ok P [] ok_nil
            generalize runL P [] = M0 at *
            clear hLl hx
            go_wp2_with fail
            refine (tlen_any HTW2.out.a).mono ?_
            rintro e w5 ⟨rfl, rfl⟩
            go_wp2_with fail
            refine (tlen_any HTW2.out.b).mono ?_
            rintro e w5 ⟨rfl, rfl⟩
            go_wp2_with fail
            go_loopw [7] (fun z wk => ∃ M : List Al, M.length ≤ 4096 ∧ Ok M ∧ z = .int .i64 (M.length : Int) ∧ ∃ va3 vb3, Two W.heap.size wk ta ma va3 M tb mb vb3 M ∧ Ext W wk) (fun z _ => (intOf z).toNat)
            case atStart => exact ⟨M0, hL4, hok, rfl, va', vb', HTW2.out, HXI.out⟩
            case round =>
              clear HTW2 HXI hL4 hok
              obtain ⟨M, hM4, hokM, rfl, va3, vb3, htw3, hx3⟩ := hrel
              have HTW3 := hid_mk htw3
              have HX3 := hid_mk hx3
              have HM4 := hid_mk hM4
              have HOK := hid_mk hokM
              clear htw3 hx3 hM4 hokM
              cases M with
              | nil =>
                simp only [List.length_nil]
                go_wp2_with fail
                refine (tlen_any HTW3.out.a).mono ?_
                rintro e w5 ⟨rfl, rfl⟩
                go_wp2
                go_ret
                exact ⟨rfl, HX3.out⟩
              | cons x M =>
                obtain ⟨hd1, hd2, hd3⟩ := del_head HOK.out
                have HD1 := hid_mk hd1
                have HD2 := hid_mk hd2
                have HD3 := hid_mk hd3
                clear hd1 hd2 hd3
                obtain ⟨m, hm⟩ : ∃ m, M.length = m := ⟨_, rfl⟩
                have HM := hid_mk hm
                rw [List.length_cons, hm]
                have hm0 : (0 : Int) < ((m + 1 : Nat) : Int) := by omega
                have hwm : wrap64 (((m + 1 : Nat) : Int) - 1) = (m : Int) := by rw [w64in (by have h4 := HM4.out; rw [List.length_cons, hm] at h4; omega)]; omega
                have HWM := hid_mk hwm
                have HWM2 := hid_mk (show wrap64 (m : Int) = (m : Int) from w64in (by have h4 := HM4.out; rw [List.length_cons, hm] at h4; clear hwm; omega))
                clear hm hwm
                go_wp2_with fail
                refine (tnext_any HTW3.out.a).mono ?_
                rintro e w5 ⟨rfl, hx5⟩
                simp only [nextV]
                have HX5 := hid_mk hx5
                clear hx5
                go_wp2_with fail
                have hxa : Ext w5 (w5.alloc (.cells #[.int .i64 x.1.1, .int .i64 x.1.2.1, .int .i64 x.1.2.2] 54)) := by (repeat (first | exact Ext.refl _ | apply Ext.drew_left | apply Ext.drew | apply Ext.alloc))
                have hn5 : NmAt (w5.alloc (.cells #[.int .i64 x.1.1, .int .i64 x.1.2.1, .int .i64 x.1.2.2] 54)) w5.heap.size x.1 := ⟨newc rfl, newc rfl, newc rfl⟩
                refine (tnext_any (HTW3.out.b.ext (Ext.trans _ _ _ HX5.out hxa))).mono ?_
                rintro e w6 ⟨rfl, hx6⟩
                simp only [nextV]
                have HN5 := hid_mk (hn5.ext hx6)
                have HX6 := hid_mk (Ext.trans _ _ _ HX5.out (Ext.trans _ _ _ hxa hx6))
                have HLT := hid_mk (show wr.heap.size ≤ w5.heap.size ∧ w5.heap.size < w6.heap.size by have h1 := HX5.out.below.size; have h2 := cell_lt HN5.out.c0; omega)
                obtain ⟨n0, n1, n2⟩ := HN5.out
                have hnl := cell_lt n0
                clear hxa hn5 hx6
                go_wp2_with fail
                have hxb : Ext w6 (w6.alloc (.cells #[.int .i64 x.1.1, .int .i64 x.1.2.1, .int .i64 x.1.2.2] 54)) := by (repeat (first | exact Ext.refl _ | apply Ext.drew_left | apply Ext.drew | apply Ext.alloc))
                have hn6 : NmAt (w6.alloc (.cells #[.int .i64 x.1.1, .int .i64 x.1.2.1, .int .i64 x.1.2.2] 54)) w6.heap.size x.1 := ⟨newc rfl, newc rfl, newc rfl⟩
                have htwA := HTW3.out.ext (Ext.trans _ _ _ HX6.out hxb)
                refine (tdrop_any htwA.a x.1 (by have := HM4.out; omega)).mono ?_
                rintro e w7 ⟨rfl, hp7⟩
                rw [HD1.out] at hp7
                rw [HD2.out]
                obtain ⟨va4, htw7, hx7⟩ := htwA.wa hp7.to
                obtain ⟨-, -, hxl7, -⟩ := hp7
                have hlt3 : ∀ k ∈ fp ta ma va3, k < wr.heap.size := fun k hk => (HTW3.out.a.fp_lt k hk).2
                have HN7 := hid_mk (hn6.xl hxl7 (fun hm => by have := hlt3 _ hm; have := HLT.out; omega))
                have HTW7 := hid_mk htw7
                have HX7 := hid_mk (hx7 W (Nat.le_refl _) (Ext.trans _ _ _ HX3.out (Ext.trans _ _ _ HX6.out hxb)))
                simp only [Option.isSome_some]
                clear n0 n1 n2 hnl hxb hn6 htwA htw7 hx7 hxl7 hlt3
                obtain ⟨n0, n1, n2⟩ := HN7.out
                have hnl := cell_lt n0
                go_wp2_with fail
                refine (tdrop_any HTW7.out.b x.1 (by have := HM4.out; omega)).mono ?_
                rintro e w8 ⟨rfl, hp8⟩
                rw [HD1.out] at hp8
                rw [HD2.out]
                obtain ⟨vb4, htw8, hx8⟩ := HTW7.out.wb hp8.to
                have HTW8 := hid_mk htw8
                have HX8 := hid_mk (hx8 W (Nat.le_refl _) HX7.out)
                simp only [Option.isSome_some]
                clear n0 n1 n2 hnl hp8 htw8 hx8
                go_wp2
                go_roundw
                case rel => exact ⟨M, by have := HM4.out; rw [List.length_cons] at this; omega, HD3.out, (by rw [HM.out]; first | exact congrArg (Value.int .i64) HWM.out | exact congrArg (Value.int .i64) HWM2.out | rfl), va4, vb4, HTW8.out, HX8.out⟩
                case measure => (try simp only [HWM.out]); (try simp only [HWM2.out]); simp [intOf]; first | done | omega
          · obtain ⟨i, rfl⟩ : ∃ i, j = i + 1 := ⟨j - 1, by omega⟩
            rw [show ((i + 1 : Nat) : Int) - 1 = (i : Int) by omega]
            have hi0 : (0 : Int) ≤ (i : Int) := by omega
            have hin : (i : Int) < (N.length : Int) := by omega
            have hwi : wrap64 ((i : Int) - 1) = (i : Int) - 1 := w64in (by have := HN4.out; omega)
            have HWI := hid_mk hwi
            clear hwi
            by_cases hiT : i < T.length
            · have hiP : i < P.length := by have := HPL.out; omega
              obtain ⟨h1, h2, hpe⟩ := HPG.out i hiP
              obtain ⟨nb, no, rfl, hncl⟩ := HNC.out (by omega)
              obtain ⟨tb', to, rfl, htcl⟩ := HTC.out (by omega)
              obtain ⟨n0, n1, n2⟩ := (hncl i h1).ext hx
              have t0 := cell_ext hx (htcl i h2)
              have hnl := cell_lt n0
              have htl := cell_lt t0
              have HBS := hid_mk (back_step hiP hpe)
              obtain ⟨nm, hnm⟩ : ∃ nm, N[i] = nm := ⟨_, rfl⟩
              obtain ⟨tm, htm⟩ : ∃ tm, T[i] = tm := ⟨_, rfl⟩
              rw [hnm] at n0 n1 n2 HBS
              rw [htm] at t0 HBS
              have hiT' : (i : Int) < (T.length : Int) := by omega
              have hblen := back_len (P.drop (i + 1))
              have HBL := hid_mk (show (back (P.drop (i + 1))).length ≤ 4096 by rw [List.length_drop] at hblen; have := HPL.out; have := HN4.out; omega)
              clear hncl htcl hpe hnm htm hblen hx
              by_cases hb1 : tm < 0
              · have HSTEP := hid_mk (show back (P.drop i) = back (P.drop (i + 1)) by rw [HBS.out, if_pos (by simp [badT, hb1])])
                go_wp2
                go_roundw
                case rel => exact ⟨i, by omega, (by first | exact congrArg (Value.int .i64) HWI.out | rfl), by rw [HSTEP.out], va', vb', by rw [HSTEP.out]; exact HTW2.out, HXI.out⟩
                case measure => (try simp only [HWI.out]); simp [intOf]; first | done | omega
              · by_cases hb2 : 1099511627776 < tm
                · have HSTEP := hid_mk (show back (P.drop i) = back (P.drop (i + 1)) by rw [HBS.out, if_pos (by simp [badT, hb2])])
                  go_wp2
                  go_roundw
                  case rel => exact ⟨i, by omega, (by first | exact congrArg (Value.int .i64) HWI.out | rfl), by rw [HSTEP.out], va', vb', by rw [HSTEP.out]; exact HTW2.out, HXI.out⟩
                  case measure => (try simp only [HWI.out]); simp [intOf]; first | done | omega
                · have hbad : badT tm = false := by unfold badT; rw [decide_eq_false hb1, decide_eq_false hb2]; rfl
                  rw [hbad] at HBS
                  have HBAD := hid_mk hbad
                  clear hbad
                  go_wp2_with fail
                  refine (tat_any (HTW2.out.b) nm).mono ?_
                  rintro e w5 ⟨rfl, hx5⟩
                  replace HTW2 := hid_mk (HTW2.out.ext hx5)
                  replace HXI := hid_mk (Ext.trans _ _ _ HXI.out hx5)
                  replace n0 := cell_ext hx5 n0
                  replace n1 := cell_ext hx5 n1
                  replace n2 := cell_ext hx5 n2
                  replace t0 := cell_ext hx5 t0
                  replace hnl := cell_lt n0
                  replace htl := cell_lt t0
                  clear hx5
                  obtain ⟨r, hr⟩ : ∃ r, atN nm (back (P.drop (i + 1))) = r := ⟨_, rfl⟩
                  rw [hr] at HBS ⊢
                  have HR := hid_mk hr
                  clear hr
                  cases r with
                  | some u =>
                    have HSTEP := hid_mk (show back (P.drop i) = back (P.drop (i + 1)) by rw [HBS.out]; rfl)
                    simp only [Option.getD_some, Option.isSome_some]
                    go_wp2
                    go_roundw
                    case rel => exact ⟨i, by omega, (by first | exact congrArg (Value.int .i64) HWI.out | rfl), by rw [HSTEP.out], va', vb', by rw [HSTEP.out]; exact HTW2.out, HXI.out⟩
                    case measure => (try simp only [HWI.out]); simp [intOf]; first | done | omega
                  | none =>
                    have HSTEP := hid_mk (show back (P.drop i) = setA nm tm (back (P.drop (i + 1))) by rw [HBS.out]; rfl)
                    simp only [Option.getD_none, Option.isSome_none]
                    have HNEW := hid_mk (setA_new (t := tm) HR.out)
                    have hwn : wrap64 (((back (P.drop (i + 1))).length : Int) + 1) = ((back (P.drop (i + 1))).length : Int) + 1 := w64in (by have := HBL.out; omega)
                    have HWN := hid_mk hwn
                    clear hwn
                    go_wp2_with fail
                    refine wp_region_held_planC Ext (fun i => i != 9) (fun i => [0, 1, 2, 3, 5, 6, 7, 10].contains i) (.quiet 0 (.quiet 1 (.quiet 2 (.quiet 3 (.quiet 4 (.quiet 5 (.quiet 6 (.quiet 7 (.quiet 8 (.alt 9 (.quiet 10 .done) .stop)))))))))) (by kernel_rfl) (by kernel_rfl) Ext.refl Ext.trans (by intro c a w d v h; cases d <;> exact h) (fun ops HO => ?_)
                    refine planC_calm _ (hi_of HO rfl) rfl (fun w' => by go_simp; rfl) ?_
                    simp only [Act.put, List.setIfInBounds_toArray, List.set_cons_succ, List.set_cons_zero]
                    refine planC_calm _ (hi_of HO rfl) rfl (fun w' => by go_simp; rfl) ?_
                    simp only [Act.put, List.setIfInBounds_toArray, List.set_cons_succ, List.set_cons_zero]
                    refine planC_calm _ (hi_of HO rfl) rfl (fun w' => by go_simp; rfl) ?_
                    simp only [Act.put, List.setIfInBounds_toArray, List.set_cons_succ, List.set_cons_zero]
                    refine planC_calm _ (hi_of HO rfl) rfl (fun w' => by go_simp; rfl) ?_
                    simp only [Act.put, List.setIfInBounds_toArray, List.set_cons_succ, List.set_cons_zero]
                    refine planC_read _ (hi_of HO rfl) rfl rfl (fun w' hE => by (repeat (with_reducible replace hE := Ext.unD hE)); have hcE := hE.hc; clear hE; go_simp; rfl) ?_
                    simp only [Act.put, List.setIfInBounds_toArray, List.set_cons_succ, List.set_cons_zero]
                    refine planC_calm _ (hi_of HO rfl) rfl (fun w' => by go_simp; rfl) ?_
                    simp only [Act.put, List.setIfInBounds_toArray, List.set_cons_succ, List.set_cons_zero]
                    refine planC_calm _ (hi_of HO rfl) rfl (fun w' => by go_simp; rfl) ?_
                    simp only [Act.put, List.setIfInBounds_toArray, List.set_cons_succ, List.set_cons_zero]
                    refine planC_calm _ (hi_of HO rfl) rfl (fun w' => by go_simp; rfl) ?_
                    simp only [Act.put, List.setIfInBounds_toArray, List.set_cons_succ, List.set_cons_zero]
                    refine planC_read _ (hi_of HO rfl) rfl rfl (fun w' hE => by (repeat (with_reducible replace hE := Ext.unD hE)); have hcE := hE.hc; clear hE; go_simp; rfl) ?_
                    simp only [Act.put, List.setIfInBounds_toArray, List.set_cons_succ, List.set_cons_zero]
                    refine planC_call1 en_TmSet (hi_of HO rfl) rfl rfl (by go_simp; rfl) (by exact tset_any (HTW2.out.b.ext (by (repeat (first | exact Ext.refl _ | apply Ext.drew_left | apply Ext.drew | apply Ext.alloc)))) nm tm (by have := HBL.out; omega)) ?_
                    rintro e v9 ⟨rfl, hp9⟩
                    unfold setL at hp9
                    rw [HBAD.out] at hp9 ⊢
                    obtain ⟨vb2, htw9, hx9⟩ := (HTW2.out.ext (by (repeat (first | exact Ext.refl _ | apply Ext.drew_left | apply Ext.drew | apply Ext.alloc)))).wb hp9
                    have HTW9 := hid_mk htw9
                    have HX9 := hid_mk (hx9 W (Nat.le_refl _) (Ext.trans _ _ _ HXI.out (by (repeat (first | exact Ext.refl _ | apply Ext.drew_left | apply Ext.drew | apply Ext.alloc)))))
                    clear htw9 hx9 hp9
                    refine ⟨_, rfl, (fun h => absurd h (by decide)), ?_⟩
                    simp only [Act.put, List.setIfInBounds_toArray, List.set_cons_succ, List.set_cons_zero]
                    refine planC_calm _ (hi_of HO rfl) rfl (fun w' => by go_simp; rfl) ?_
                    simp only [Act.put, List.setIfInBounds_toArray, List.set_cons_succ, List.set_cons_zero]
                    refine planC_done ?fin102
                    go_wp2
                    go_roundw
                    case rel => exact ⟨i, by omega, (by first | exact congrArg (Value.int .i64) HWI.out | rfl), by rw [HSTEP.out, HNEW.out]; first | exact congrArg (Value.int .i64) HWN.out | rfl, va', vb2, by rw [HSTEP.out]; exact HTW9.out, HX9.out⟩
                    case measure => (try simp only [HWI.out]); simp [intOf]; first | done | omega
            · have HSTEP := hid_mk (back_none (P := P) (i := i) (by have := HPL.out; omega))
              have hiT' : (T.length : Int) ≤ (i : Int) := by omega
              clear hx
              go_wp2
              go_roundw
              case rel => exact ⟨i, by omega, (by first | exact congrArg (Value.int .i64) HWI.out | rfl), by rw [HSTEP.out], va', vb', by rw [HSTEP.out]; exact HTW2.out, HXI.out⟩
              case measure => (try simp only [HWI.out]); simp [intOf]; first | done | omega
      ·
        have hw0 : wrap64 ((N.length : Int) - 1) = (N.length : Int) - 1 := w64in (by have := HN4.out; omega)
        go_wp2_with fail
        clear hw0 hq1
        go_loopw [7, 9] (fun z x wi => ∃ j : Nat, j ≤ N.length ∧ x = .int .i64 ((j : Int) - 1) ∧ z = .int .i64 ((back (P.drop j)).length : Int) ∧ ∃ va' vb', Two W.heap.size wi ta ma va' (runL P []) tb mb vb' (back (P.drop j)) ∧ Ext W wi) (fun _ x _ => (intOf x + 1).toNat)
        case atStart =>
          have hd : P.drop N.length = [] := List.drop_eq_nil_of_le (by have := HPL.out; omega)
          exact ⟨N.length, Nat.le_refl _, rfl, by rw [hd]; rfl, va, vb, by rw [hd]; exact HTW.out, HXR.out⟩
        case round =>
          clear HXR HTW
          obtain ⟨j, hj, rfl, rfl, va', vb', htw, hx⟩ := hrel
          have HTW2 := hid_mk htw
          have HXI := hid_mk hx
          clear htw
          rcases Nat.eq_zero_or_pos j with h0 | hpos
          · subst h0
            have hneg : ¬ (0 : Int) ≤ ((0 : Nat) : Int) - 1 := by omega
            rw [List.drop_zero] at HTW2 ⊢
            rw [back_is P] at HTW2 ⊢
            have hLl := runL_len P []
            have hL4 : (runL P []).length ≤ 4096 := by simp at hLl; have := HPL.out; have := HN4.out; omega
            have hok : Ok (runL P []) := runL_ok P [] ok_nil
            generalize runL P [] = M0 at *
            clear hLl hx
            go_wp2_with fail
            refine (tlen_any HTW2.out.a).mono ?_
            rintro e w5 ⟨rfl, rfl⟩
            go_wp2_with fail
            refine (tlen_any HTW2.out.b).mono ?_
            rintro e w5 ⟨rfl, rfl⟩
            go_wp2_with fail
            go_loopw [7] (fun z wk => ∃ M : List Al, M.length ≤ 4096 ∧ Ok M ∧ z = .int .i64 (M.length : Int) ∧ ∃ va3 vb3, Two W.heap.size wk ta ma va3 M tb mb vb3 M ∧ Ext W wk) (fun z _ => (intOf z).toNat)
            case atStart => exact ⟨M0, hL4, hok, rfl, va', vb', HTW2.out, HXI.out⟩
            case round =>
              clear HTW2 HXI hL4 hok
              obtain ⟨M, hM4, hokM, rfl, va3, vb3, htw3, hx3⟩ := hrel
              have HTW3 := hid_mk htw3
              have HX3 := hid_mk hx3
              have HM4 := hid_mk hM4
              have HOK := hid_mk hokM
              clear htw3 hx3 hM4 hokM
              cases M with
              | nil =>
                simp only [List.length_nil]
                go_wp2_with fail
                refine (tlen_any HTW3.out.a).mono ?_
                rintro e w5 ⟨rfl, rfl⟩
                go_wp2
                go_ret
                exact ⟨rfl, HX3.out⟩
              | cons x M =>
                obtain ⟨hd1, hd2, hd3⟩ := del_head HOK.out
                have HD1 := hid_mk hd1
                have HD2 := hid_mk hd2
                have HD3 := hid_mk hd3
                clear hd1 hd2 hd3
                obtain ⟨m, hm⟩ : ∃ m, M.length = m := ⟨_, rfl⟩
                have HM := hid_mk hm
                rw [List.length_cons, hm]
                have hm0 : (0 : Int) < ((m + 1 : Nat) : Int) := by omega
                have hwm : wrap64 (((m + 1 : Nat) : Int) - 1) = (m : Int) := by rw [w64in (by have h4 := HM4.out; rw [List.length_cons, hm] at h4; omega)]; omega
                have HWM := hid_mk hwm
                have HWM2 := hid_mk (show wrap64 (m : Int) = (m : Int) from w64in (by have h4 := HM4.out; rw [List.length_cons, hm] at h4; clear hwm; omega))
                clear hm hwm
                go_wp2_with fail
                refine (tnext_any HTW3.out.a).mono ?_
                rintro e w5 ⟨rfl, hx5⟩
                simp only [nextV]
                have HX5 := hid_mk hx5
                clear hx5
                go_wp2_with fail
                have hxa : Ext w5 (w5.alloc (.cells #[.int .i64 x.1.1, .int .i64 x.1.2.1, .int .i64 x.1.2.2] 54)) := by (repeat (first | exact Ext.refl _ | apply Ext.drew_left | apply Ext.drew | apply Ext.alloc))
                have hn5 : NmAt (w5.alloc (.cells #[.int .i64 x.1.1, .int .i64 x.1.2.1, .int .i64 x.1.2.2] 54)) w5.heap.size x.1 := ⟨newc rfl, newc rfl, newc rfl⟩
                refine (tnext_any (HTW3.out.b.ext (Ext.trans _ _ _ HX5.out hxa))).mono ?_
                rintro e w6 ⟨rfl, hx6⟩
                simp only [nextV]
                have HN5 := hid_mk (hn5.ext hx6)
                have HX6 := hid_mk (Ext.trans _ _ _ HX5.out (Ext.trans _ _ _ hxa hx6))
                have HLT := hid_mk (show wr.heap.size ≤ w5.heap.size ∧ w5.heap.size < w6.heap.size by have h1 := HX5.out.below.size; have h2 := cell_lt HN5.out.c0; omega)
                obtain ⟨n0, n1, n2⟩ := HN5.out
                have hnl := cell_lt n0
                clear hxa hn5 hx6
                go_wp2_with fail
                have hxb : Ext w6 (w6.alloc (.cells #[.int .i64 x.1.1, .int .i64 x.1.2.1, .int .i64 x.1.2.2] 54)) := by (repeat (first | exact Ext.refl _ | apply Ext.drew_left | apply Ext.drew | apply Ext.alloc))
                have hn6 : NmAt (w6.alloc (.cells #[.int .i64 x.1.1, .int .i64 x.1.2.1, .int .i64 x.1.2.2] 54)) w6.heap.size x.1 := ⟨newc rfl, newc rfl, newc rfl⟩
                have htwA := HTW3.out.ext (Ext.trans _ _ _ HX6.out hxb)
                refine (tdrop_any htwA.a x.1 (by have := HM4.out; omega)).mono ?_
                rintro e w7 ⟨rfl, hp7⟩
                rw [HD1.out] at hp7
                rw [HD2.out]
                obtain ⟨va4, htw7, hx7⟩ := htwA.wa hp7.to
                obtain ⟨-, -, hxl7, -⟩ := hp7
                have hlt3 : ∀ k ∈ fp ta ma va3, k < wr.heap.size := fun k hk => (HTW3.out.a.fp_lt k hk).2
                have HN7 := hid_mk (hn6.xl hxl7 (fun hm => by have := hlt3 _ hm; have := HLT.out; omega))
                have HTW7 := hid_mk htw7
                have HX7 := hid_mk (hx7 W (Nat.le_refl _) (Ext.trans _ _ _ HX3.out (Ext.trans _ _ _ HX6.out hxb)))
                simp only [Option.isSome_some]
                clear n0 n1 n2 hnl hxb hn6 htwA htw7 hx7 hxl7 hlt3
                obtain ⟨n0, n1, n2⟩ := HN7.out
                have hnl := cell_lt n0
                go_wp2_with fail
                refine (tdrop_any HTW7.out.b x.1 (by have := HM4.out; omega)).mono ?_
                rintro e w8 ⟨rfl, hp8⟩
                rw [HD1.out] at hp8
                rw [HD2.out]
                obtain ⟨vb4, htw8, hx8⟩ := HTW7.out.wb hp8.to
                have HTW8 := hid_mk htw8
                have HX8 := hid_mk (hx8 W (Nat.le_refl _) HX7.out)
                simp only [Option.isSome_some]
                clear n0 n1 n2 hnl hp8 htw8 hx8
                go_wp2
                go_roundw
                case rel => exact ⟨M, by have := HM4.out; rw [List.length_cons] at this; omega, HD3.out, (by rw [HM.out]; first | exact congrArg (Value.int .i64) HWM.out | exact congrArg (Value.int .i64) HWM2.out | rfl), va4, vb4, HTW8.out, HX8.out⟩
                case measure => (try simp only [HWM.out]); (try simp only [HWM2.out]); simp [intOf]; first | done | omega
          · obtain ⟨i, rfl⟩ : ∃ i, j = i + 1 := ⟨j - 1, by omega⟩
            rw [show ((i + 1 : Nat) : Int) - 1 = (i : Int) by omega]
            have hi0 : (0 : Int) ≤ (i : Int) := by omega
            have hin : (i : Int) < (N.length : Int) := by omega
            have hwi : wrap64 ((i : Int) - 1) = (i : Int) - 1 := w64in (by have := HN4.out; omega)
            have HWI := hid_mk hwi
            clear hwi
            by_cases hiT : i < T.length
            · have hiP : i < P.length := by have := HPL.out; omega
              obtain ⟨h1, h2, hpe⟩ := HPG.out i hiP
              obtain ⟨nb, no, rfl, hncl⟩ := HNC.out (by omega)
              obtain ⟨tb', to, rfl, htcl⟩ := HTC.out (by omega)
              obtain ⟨n0, n1, n2⟩ := (hncl i h1).ext hx
              have t0 := cell_ext hx (htcl i h2)
              have hnl := cell_lt n0
              have htl := cell_lt t0
              have HBS := hid_mk (back_step hiP hpe)
              obtain ⟨nm, hnm⟩ : ∃ nm, N[i] = nm := ⟨_, rfl⟩
              obtain ⟨tm, htm⟩ : ∃ tm, T[i] = tm := ⟨_, rfl⟩
              rw [hnm] at n0 n1 n2 HBS
              rw [htm] at t0 HBS
              have hiT' : (i : Int) < (T.length : Int) := by omega
              have hblen := back_len (P.drop (i + 1))
              have HBL := hid_mk (show (back (P.drop (i + 1))).length ≤ 4096 by rw [List.length_drop] at hblen; have := HPL.out; have := HN4.out; omega)
              clear hncl htcl hpe hnm htm hblen hx
              by_cases hb1 : tm < 0
              · have HSTEP := hid_mk (show back (P.drop i) = back (P.drop (i + 1)) by rw [HBS.out, if_pos (by simp [badT, hb1])])
                go_wp2
                go_roundw
                case rel => exact ⟨i, by omega, (by first | exact congrArg (Value.int .i64) HWI.out | rfl), by rw [HSTEP.out], va', vb', by rw [HSTEP.out]; exact HTW2.out, HXI.out⟩
                case measure => (try simp only [HWI.out]); simp [intOf]; first | done | omega
              · by_cases hb2 : 1099511627776 < tm
                · have HSTEP := hid_mk (show back (P.drop i) = back (P.drop (i + 1)) by rw [HBS.out, if_pos (by simp [badT, hb2])])
                  go_wp2
                  go_roundw
                  case rel => exact ⟨i, by omega, (by first | exact congrArg (Value.int .i64) HWI.out | rfl), by rw [HSTEP.out], va', vb', by rw [HSTEP.out]; exact HTW2.out, HXI.out⟩
                  case measure => (try simp only [HWI.out]); simp [intOf]; first | done | omega
                · have hbad : badT tm = false := by unfold badT; rw [decide_eq_false hb1, decide_eq_false hb2]; rfl
                  rw [hbad] at HBS
                  have HBAD := hid_mk hbad
                  clear hbad
                  go_wp2_with fail
                  refine (tat_any (HTW2.out.b) nm).mono ?_
                  rintro e w5 ⟨rfl, hx5⟩
                  replace HTW2 := hid_mk (HTW2.out.ext hx5)
                  replace HXI := hid_mk (Ext.trans _ _ _ HXI.out hx5)
                  replace n0 := cell_ext hx5 n0
                  replace n1 := cell_ext hx5 n1
                  replace n2 := cell_ext hx5 n2
                  replace t0 := cell_ext hx5 t0
                  replace hnl := cell_lt n0
                  replace htl := cell_lt t0
                  clear hx5
                  obtain ⟨r, hr⟩ : ∃ r, atN nm (back (P.drop (i + 1))) = r := ⟨_, rfl⟩
                  rw [hr] at HBS ⊢
                  have HR := hid_mk hr
                  clear hr
                  cases r with
                  | some u =>
                    have HSTEP := hid_mk (show back (P.drop i) = back (P.drop (i + 1)) by rw [HBS.out]; rfl)
                    simp only [Option.getD_some, Option.isSome_some]
                    go_wp2
                    go_roundw
                    case rel => exact ⟨i, by omega, (by first | exact congrArg (Value.int .i64) HWI.out | rfl), by rw [HSTEP.out], va', vb', by rw [HSTEP.out]; exact HTW2.out, HXI.out⟩
                    case measure => (try simp only [HWI.out]); simp [intOf]; first | done | omega
                  | none =>
                    have HSTEP := hid_mk (show back (P.drop i) = setA nm tm (back (P.drop (i + 1))) by rw [HBS.out]; rfl)
                    simp only [Option.getD_none, Option.isSome_none]
                    have HNEW := hid_mk (setA_new (t := tm) HR.out)
                    have hwn : wrap64 (((back (P.drop (i + 1))).length : Int) + 1) = ((back (P.drop (i + 1))).length : Int) + 1 := w64in (by have := HBL.out; omega)
                    have HWN := hid_mk hwn
                    clear hwn
                    go_wp2_with fail
                    refine wp_region_held_planC Ext (fun i => i != 9) (fun i => [0, 1, 2, 3, 5, 6, 7, 10].contains i) (.quiet 0 (.quiet 1 (.quiet 2 (.quiet 3 (.quiet 4 (.quiet 5 (.quiet 6 (.quiet 7 (.quiet 8 (.alt 9 (.quiet 10 .done) .stop)))))))))) (by kernel_rfl) (by kernel_rfl) Ext.refl Ext.trans (by intro c a w d v h; cases d <;> exact h) (fun ops HO => ?_)
                    refine planC_calm _ (hi_of HO rfl) rfl (fun w' => by go_simp; rfl) ?_
                    simp only [Act.put, List.setIfInBounds_toArray, List.set_cons_succ, List.set_cons_zero]
                    refine planC_calm _ (hi_of HO rfl) rfl (fun w' => by go_simp; rfl) ?_
                    simp only [Act.put, List.setIfInBounds_toArray, List.set_cons_succ, List.set_cons_zero]
                    refine planC_calm _ (hi_of HO rfl) rfl (fun w' => by go_simp; rfl) ?_
                    simp only [Act.put, List.setIfInBounds_toArray, List.set_cons_succ, List.set_cons_zero]
                    refine planC_calm _ (hi_of HO rfl) rfl (fun w' => by go_simp; rfl) ?_
                    simp only [Act.put, List.setIfInBounds_toArray, List.set_cons_succ, List.set_cons_zero]
                    refine planC_read _ (hi_of HO rfl) rfl rfl (fun w' hE => by (repeat (with_reducible replace hE := Ext.unD hE)); have hcE := hE.hc; clear hE; go_simp; rfl) ?_
                    simp only [Act.put, List.setIfInBounds_toArray, List.set_cons_succ, List.set_cons_zero]
                    refine planC_calm _ (hi_of HO rfl) rfl (fun w' => by go_simp; rfl) ?_
                    simp only [Act.put, List.setIfInBounds_toArray, List.set_cons_succ, List.set_cons_zero]
                    refine planC_calm _ (hi_of HO rfl) rfl (fun w' => by go_simp; rfl) ?_
                    simp only [Act.put, List.setIfInBounds_toArray, List.set_cons_succ, List.set_cons_zero]
                    refine planC_calm _ (hi_of HO rfl) rfl (fun w' => by go_simp; rfl) ?_
                    simp only [Act.put, List.setIfInBounds_toArray, List.set_cons_succ, List.set_cons_zero]
                    refine planC_read _ (hi_of HO rfl) rfl rfl (fun w' hE => by (repeat (with_reducible replace hE := Ext.unD hE)); have hcE := hE.hc; clear hE; go_simp; rfl) ?_
                    simp only [Act.put, List.setIfInBounds_toArray, List.set_cons_succ, List.set_cons_zero]
                    refine planC_call1 en_TmSet (hi_of HO rfl) rfl rfl (by go_simp; rfl) (by exact tset_any (HTW2.out.b.ext (by (repeat (first | exact Ext.refl _ | apply Ext.drew_left | apply Ext.drew | apply Ext.alloc)))) nm tm (by have := HBL.out; omega)) ?_
                    rintro e v9 ⟨rfl, hp9⟩
                    unfold setL at hp9
                    rw [HBAD.out] at hp9 ⊢
                    obtain ⟨vb2, htw9, hx9⟩ := (HTW2.out.ext (by (repeat (first | exact Ext.refl _ | apply Ext.drew_left | apply Ext.drew | apply Ext.alloc)))).wb hp9
                    have HTW9 := hid_mk htw9
                    have HX9 := hid_mk (hx9 W (Nat.le_refl _) (Ext.trans _ _ _ HXI.out (by (repeat (first | exact Ext.refl _ | apply Ext.drew_left | apply Ext.drew | apply Ext.alloc)))))
                    clear htw9 hx9 hp9
                    refine ⟨_, rfl, (fun h => absurd h (by decide)), ?_⟩
                    simp only [Act.put, List.setIfInBounds_toArray, List.set_cons_succ, List.set_cons_zero]
                    refine planC_calm _ (hi_of HO rfl) rfl (fun w' => by go_simp; rfl) ?_
                    simp only [Act.put, List.setIfInBounds_toArray, List.set_cons_succ, List.set_cons_zero]
                    refine planC_done ?fin103
                    go_wp2
                    go_roundw
                    case rel => exact ⟨i, by omega, (by first | exact congrArg (Value.int .i64) HWI.out | rfl), by rw [HSTEP.out, HNEW.out]; first | exact congrArg (Value.int .i64) HWN.out | rfl, va', vb2, by rw [HSTEP.out]; exact HTW9.out, HX9.out⟩
                    case measure => (try simp only [HWI.out]); simp [intOf]; first | done | omega
            · have HSTEP := hid_mk (back_none (P := P) (i := i) (by have := HPL.out; omega))
              have hiT' : (T.length : Int) ≤ (i : Int) := by omega
              clear hx
              go_wp2
              go_roundw
              case rel => exact ⟨i, by omega, (by first | exact congrArg (Value.int .i64) HWI.out | rfl), by rw [HSTEP.out], va', vb', by rw [HSTEP.out]; exact HTW2.out, HXI.out⟩
              case measure => (try simp only [HWI.out]); simp [intOf]; first | done | omega
end Go.Proofs.Ytiimoaplhhnklaa
