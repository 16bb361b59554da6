/- Timers: alarms in memory; the binary search among them. -/
import Derived.Test.YtiimoaplhhnklaaSA
namespace Go.Proofs.Ytiimoaplhhnklaa
open Go.RowKit
set_option maxHeartbeats 2000000
set_option maxRecDepth 100000
set_option linter.unusedSimpArgs false
set_option linter.unusedVariables false
theorem en_BSF : Enters Try.prog 47 := ⟨_, Try.func47, by kernel_rfl, rfl⟩
/-- Alarms behind one another. -/
structure AlAt (w : World) (b o : Nat) (x : Al) : Prop where
  c0 : w.cell? ⟨b, o, none⟩ = some (.int .i64 x.1.1)
  c1 : w.cell? ⟨b, o + 1, none⟩ = some (.int .i64 x.1.2.1)
  c2 : w.cell? ⟨b, o + 2, none⟩ = some (.int .i64 x.1.2.2)
  c3 : w.cell? ⟨b, o + 3, none⟩ = some (.int .i64 x.2)
theorem AlAt.xt {Sp : Option Nat} {w w' : World} {b o : Nat} {x : Al} (h : AlAt w b o x) (hx : Xt Sp w w') (hn : Sp ≠ some b) : AlAt w' b o x := ⟨hx.rd h.c0 hn, hx.rd h.c1 hn, hx.rd h.c2 hn, hx.rd h.c3 hn⟩
theorem AlAt.ext {w w' : World} {b o : Nat} {x : Al} (h : AlAt w b o x) (hx : Ext w w') : AlAt w' b o x := h.xt (Xt.of hx : Xt none _ _) (by simp)
def AlsAt (w : World) (b : Nat) (l : List Al) : Prop := ∀ i, (h : i < l.length) → AlAt w b (i * 4) l[i]
def AlsSl (w : World) (v : Value) (l : List Al) : Prop := ∃ a c, v = .slice a l.length c ∧ l.length ≤ c ∧ c ≤ 9223372036854775807 ∧ l.length ≤ 1000000000000 ∧ (0 < l.length → ∃ b, a = some ⟨b, 0, none⟩ ∧ AlsAt w b l)
theorem AlsAt.ext {w w' : World} {b : Nat} {l : List Al} (h : AlsAt w b l) (hx : Ext w w') : AlsAt w' b l := fun i hi => (h i hi).ext hx
theorem AlsSl.ext {w w' : World} {v : Value} {l : List Al} (h : AlsSl w v l) (hx : Ext w w') : AlsSl w' v l := by
  obtain ⟨a, c, h1, h2, h3, h4, h5⟩ := h
  exact ⟨a, c, h1, h2, h3, h4, fun hp => let ⟨b, e, k⟩ := h5 hp; ⟨b, e, k.ext hx⟩⟩
theorem pos_all {a : Al} {l : List Al} (h : Ok l) : ∀ t, pos a l ≤ t → (ht : t < l.length) → ¬ aLt l[t] a := fun t h1 ht h2 => by
  have hp : pos a l < l.length := by omega
  have h3 := pos_ge hp
  rcases Nat.lt_or_ge (pos a l) t with h4 | h4
  · exact h3 (aLt_trans (List.pairwise_iff_getElem.1 h.srt _ _ hp ht h4) h2)
  · have : t = pos a l := by omega
    subst this
    exact h3 h2
def foundA (a : Al) (l : List Al) : Bool := decide (∃ h : pos a l < l.length, l[pos a l] = a)
theorem bsf_any {w : World} {v : Value} {l : List Al} (a : Al) (hs : AlsSl w v l) (hok : Ok l) :
    Calls Try.prog 47 #[v, alV a, .func (.func 48) #[] #[]] w fun e w' => e = .returned (.tuple #[.int .i64 (pos a l : Nat), .bool (foundA a l)]) ∧ Ext w w' := by
  obtain ⟨ad, c, rfl, hlc, hc62, hl12, hcells⟩ := hs
  have HC := hid_mk hcells
  have HL := hid_mk (And.intro hlc (And.intro hc62 hl12))
  have HOK := hid_mk hok
  clear hcells hok hlc hc62 hl12
  go_enter Try.func47, Try.ntmps47
  go_wp2_with fail
  refine gen_code (fun W1 => AlAt W1 w.heap.size 0 a ∧ Ext w W1) ⟨⟨by go_simp, by go_simp, by go_simp, by go_simp⟩, by (repeat (first | exact Ext.refl _ | apply Ext.drew_left | apply Ext.drew | apply Ext.alloc))⟩ ?_
  rintro W1 ⟨ha, hx⟩
  have HA := hid_mk ha
  have HX := hid_mk hx
  clear ha hx
  go_loopw [9, 10] (fun x y wr => ∃ p q : Nat, p ≤ q ∧ q ≤ l.length ∧ x = .int .i64 (p : Int) ∧ y = .int .i64 (q : Int) ∧ (∀ t, t < p → (ht : t < l.length) → aLt l[t] a) ∧ (∀ t, q ≤ t → (ht : t < l.length) → ¬ aLt l[t] a) ∧ Ext W1 wr) (fun x y _ => (intOf y).toNat - (intOf x).toNat)
  case atStart => exact ⟨0, l.length, by omega, by omega, rfl, rfl, fun t h => by omega, fun t h1 h2 => by omega, Ext.refl _⟩
  case round =>
    obtain ⟨p, q, hpq, hql, rfl, rfl, hlo, hhi, hx⟩ := hrel
    have HXR := hid_mk hx
    have HLO := hid_mk hlo
    have HHI := hid_mk hhi
    obtain ⟨a0, a1, a2, a3⟩ := HA.out.ext hx
    simp only [Nat.zero_add] at a0 a1 a2 a3
    have hal := cell_lt a0
    clear hx hlo hhi
    by_cases hlt : p < q
    · have hlt' : (p : Int) < (q : Int) := by omega
      have hl12 := HL.out.2.2
      have e1 : IntKind.u64.wrap ((p : Int) + (q : Int)) = (p : Int) + (q : Int) := by rw [IntKind.wrap_u64]; omega
      go_wp2_with fail
      obtain ⟨h, hh⟩ : ∃ h : Nat, ((p : Int) + (q : Int)) / 2 = (h : Int) := ⟨(p + q) / 2, by omega⟩
      have hph : p ≤ h ∧ h < q := by omega
      rw [hh]
      have HH := hid_mk hh
      have hhl : h < l.length := by omega
      obtain ⟨b, rfl, hcl⟩ := HC.out (by omega)
      obtain ⟨r0, r1, r2, r3⟩ := (hcl h hhl).ext (Ext.trans _ _ _ HX.out HXR.out)
      have hbl := cell_lt r0
      have HCM := hid_mk (cmp_lt l[h] a)
      obtain ⟨y, hy⟩ : ∃ y, l[h] = y := ⟨_, rfl⟩
      rw [hy] at r0 r1 r2 r3 HCM
      have HY := hid_mk hy
      have hh0 : (0 : Int) ≤ (h : Int) := by omega
      have hh1 : (h : Int) < (l.length : Int) := by omega
      have HPH := hid_mk hph
      obtain ⟨cv, hcv⟩ : ∃ cv, cmpAl y a = cv := ⟨_, rfl⟩
      have HCV := hid_mk hcv
      clear hh hcl hy hph hcv e1
      refine wp_region_held_below (fun _ => true) (.quiet 0 (.quiet 1 (.quiet 2 (.quiet 3 (.quiet 4 (.quiet 5 (.alt 6 (.quiet 7 .done) .stop))))))) (by kernel_rfl) (by kernel_rfl) (by intro c a w d v h; cases d <;> exact h) (fun ops HO => ?_)
      refine plan_read _ (hi_of HO rfl) rfl (fun w' hE => by (repeat (with_reducible replace hE := Ext.unD hE)); have hcE := hE.hc; clear hE; go_simp; rfl) ?_
      simp only [Act.put, List.setIfInBounds_toArray, List.set_cons_succ, List.set_cons_zero]
      refine plan_read _ (hi_of HO rfl) rfl (fun w' hE => by (repeat (with_reducible replace hE := Ext.unD hE)); have hcE := hE.hc; clear hE; go_simp; rfl) ?_
      simp only [Act.put, List.setIfInBounds_toArray, List.set_cons_succ, List.set_cons_zero]
      refine plan_read _ (hi_of HO rfl) rfl (fun w' hE => by (repeat (with_reducible replace hE := Ext.unD hE)); have hcE := hE.hc; clear hE; go_simp; rfl) ?_
      simp only [Act.put, List.setIfInBounds_toArray, List.set_cons_succ, List.set_cons_zero]
      refine plan_read _ (hi_of HO rfl) rfl (fun w' hE => by (repeat (with_reducible replace hE := Ext.unD hE)); have hcE := hE.hc; clear hE; go_simp; rfl) ?_
      simp only [Act.put, List.setIfInBounds_toArray, List.set_cons_succ, List.set_cons_zero]
      refine plan_read _ (hi_of HO rfl) rfl (fun w' hE => by (repeat (with_reducible replace hE := Ext.unD hE)); have hcE := hE.hc; clear hE; go_simp; rfl) ?_
      simp only [Act.put, List.setIfInBounds_toArray, List.set_cons_succ, List.set_cons_zero]
      refine plan_read _ (hi_of HO rfl) rfl (fun w' hE => by (repeat (with_reducible replace hE := Ext.unD hE)); have hcE := hE.hc; clear hE; go_simp; rfl) ?_
      simp only [Act.put, List.setIfInBounds_toArray, List.set_cons_succ, List.set_cons_zero]
      refine plan_callv1 en_TmCompare (hi_of HO rfl) rfl rfl (by go_simp; rfl) (by go_simp; rfl) (by exact compareA_any y a _) ?_
      rintro e v6 ⟨rfl, hx6⟩
      refine ⟨_, rfl, fun _ => hx6, ?_⟩
      have HQ := hid_mk (Ext.unD hx6)
      rw [HCV.out]
      clear hx6
      simp only [Act.put, List.setIfInBounds_toArray, List.set_cons_succ, List.set_cons_zero]
      refine plan_read _ (hi_of HO rfl) rfl (fun w' hE => by (repeat (with_reducible replace hE := Ext.unD hE)); have hcE := hE.hc; clear hE; go_simp; rfl) ?_
      simp only [Act.put, List.setIfInBounds_toArray, List.set_cons_succ, List.set_cons_zero]
      refine plan_done ?fin101
      by_cases hneg : cv < 0
      · have hle : aLt y a := HCM.out.1 (by rw [HCV.out]; exact hneg)
        have HLE := hid_mk hle
        clear hle
        go_wp2
        go_roundw
        case rel =>
          refine ⟨h + 1, q, by have := HPH.out; omega, hql, by go_num, rfl, fun t ht htl => ?_, HHI.out, Ext.trans _ _ _ HXR.out (by first | exact HQ.out | exact Ext.drew HQ.out)⟩
          rcases Nat.lt_or_ge t h with h1 | h1
          · have h2 := List.pairwise_iff_getElem.1 HOK.out.srt t h htl hhl h1
            rw [HY.out] at h2
            exact aLt_trans h2 HLE.out
          · have : t = h := by omega
            subst this
            rw [HY.out]
            exact HLE.out
        case measure => simp [intOf]; have := HPH.out; omega
      · have hle : ¬ aLt y a := fun e => hneg (by have := HCM.out.2 e; rw [HCV.out] at this; exact this)
        have HLE := hid_mk hle
        clear hle
        go_wp2
        go_roundw
        case rel =>
          refine ⟨p, h, HPH.out.1, by omega, rfl, rfl, HLO.out, fun t ht htl e => ?_, Ext.trans _ _ _ HXR.out (by first | exact HQ.out | exact Ext.drew HQ.out)⟩
          rcases Nat.lt_or_ge h t with h1 | h1
          · have h2 := List.pairwise_iff_getElem.1 HOK.out.srt h t hhl htl h1
            rw [HY.out] at h2
            exact HLE.out (aLt_trans h2 e)
          · have : t = h := by omega
            subst this
            rw [HY.out] at e
            exact HLE.out e
        case measure => simp [intOf]; have := HPH.out; omega
    · obtain rfl : p = q := by omega
      have hp : p = pos a l := pos_uniq hql (fun j hj => HLO.out j hj (by omega)) (fun h => HHI.out p (Nat.le_refl _) h)
      have hpp : ¬ (p : Int) < (p : Int) := by omega
      have HP := hid_mk hp
      clear hp
      by_cases hpl : p < l.length
      · obtain ⟨b, rfl, hcl⟩ := HC.out (by omega)
        obtain ⟨r0, r1, r2, r3⟩ := (hcl p hpl).ext (Ext.trans _ _ _ HX.out HXR.out)
        have hbl := cell_lt r0
        have HCM := hid_mk (cmp_eq l[p] a)
        have HF := hid_mk (show foundA a l = decide (l[p] = a) by
          unfold foundA
          rw [Bool.eq_iff_iff, decide_eq_true_eq, decide_eq_true_eq]
          constructor
          · rintro ⟨h1, h2⟩
            have e : p = pos a l := HP.out
            simp only [e]
            exact h2
          · intro h
            have e : p = pos a l := HP.out
            refine ⟨by rw [← e]; exact hpl, ?_⟩
            simp only [← e]
            exact h)
        obtain ⟨y, hy⟩ : ∃ y, l[p] = y := ⟨_, rfl⟩
        rw [hy] at r0 r1 r2 r3 HCM HF
        have hh0 : (0 : Int) ≤ (p : Int) := by omega
        have hh1 : (p : Int) < (l.length : Int) := by omega
        obtain ⟨cv, hcv⟩ : ∃ cv, cmpAl y a = cv := ⟨_, rfl⟩
        have HCV := hid_mk hcv
        have HFC := hid_mk (show foundA a l = decide (cv = 0) by
          rw [HF.out, Bool.eq_iff_iff, decide_eq_true_eq, decide_eq_true_eq, ← hcv]
          exact HCM.out.symm)
        clear hy hcl hcv HF HCM
        go_wp2_with fail
        refine wp_region_held_below (fun _ => true) (.quiet 0 (.quiet 1 (.quiet 2 (.quiet 3 (.quiet 4 (.quiet 5 (.quiet 6 (.quiet 7 (.quiet 8 (.quiet 9 (.quiet 10 (.alt 11 (.quiet 12 (.quiet 13 (.quiet 14 (.quiet 15 .done)))) .stop)))))))))))) (by kernel_rfl) (by kernel_rfl) (by intro c a w d v h; cases d <;> exact h) (fun ops HO => ?_)
        refine plan_read _ (hi_of HO rfl) rfl (fun w' hE => by (repeat (with_reducible replace hE := Ext.unD hE)); have hcE := hE.hc; clear hE; go_simp; rfl) ?_
        simp only [Act.put, List.setIfInBounds_toArray, List.set_cons_succ, List.set_cons_zero]
        refine plan_read _ (hi_of HO rfl) rfl (fun w' hE => by (repeat (with_reducible replace hE := Ext.unD hE)); have hcE := hE.hc; clear hE; go_simp; rfl) ?_
        simp only [Act.put, List.setIfInBounds_toArray, List.set_cons_succ, List.set_cons_zero]
        refine plan_read _ (hi_of HO rfl) rfl (fun w' hE => by (repeat (with_reducible replace hE := Ext.unD hE)); have hcE := hE.hc; clear hE; go_simp; rfl) ?_
        simp only [Act.put, List.setIfInBounds_toArray, List.set_cons_succ, List.set_cons_zero]
        refine plan_read _ (hi_of HO rfl) rfl (fun w' hE => by (repeat (with_reducible replace hE := Ext.unD hE)); have hcE := hE.hc; clear hE; go_simp; rfl) ?_
        simp only [Act.put, List.setIfInBounds_toArray, List.set_cons_succ, List.set_cons_zero]
        refine plan_read _ (hi_of HO rfl) rfl (fun w' hE => by (repeat (with_reducible replace hE := Ext.unD hE)); have hcE := hE.hc; clear hE; go_simp; rfl) ?_
        simp only [Act.put, List.setIfInBounds_toArray, List.set_cons_succ, List.set_cons_zero]
        refine plan_read _ (hi_of HO rfl) (by rw [HO.out]; rfl) (fun w' hE => by (repeat (with_reducible replace hE := Ext.unD hE)); have hcE := hE.hc; clear hE; go_simp; rfl) ?_
        simp only [Act.put, List.setIfInBounds_toArray, List.set_cons_succ, List.set_cons_zero]
        refine plan_read _ (hi_of HO rfl) (by rw [HO.out]; rfl) (fun w' hE => by (repeat (with_reducible replace hE := Ext.unD hE)); have hcE := hE.hc; clear hE; go_simp; rfl) ?_
        simp only [Act.put, List.setIfInBounds_toArray, List.set_cons_succ, List.set_cons_zero]
        refine plan_read _ (hi_of HO rfl) (by rw [HO.out]; rfl) (fun w' hE => by (repeat (with_reducible replace hE := Ext.unD hE)); have hcE := hE.hc; clear hE; go_simp; rfl) ?_
        simp only [Act.put, List.setIfInBounds_toArray, List.set_cons_succ, List.set_cons_zero]
        refine plan_read _ (hi_of HO rfl) (by rw [HO.out]; rfl) (fun w' hE => by (repeat (with_reducible replace hE := Ext.unD hE)); have hcE := hE.hc; clear hE; go_simp; rfl) ?_
        simp only [Act.put, List.setIfInBounds_toArray, List.set_cons_succ, List.set_cons_zero]
        refine plan_read _ (hi_of HO rfl) (by rw [HO.out]; rfl) (fun w' hE => by (repeat (with_reducible replace hE := Ext.unD hE)); have hcE := hE.hc; clear hE; go_simp; rfl) ?_
        simp only [Act.put, List.setIfInBounds_toArray, List.set_cons_succ, List.set_cons_zero]
        refine plan_read _ (hi_of HO rfl) (by rw [HO.out]; rfl) (fun w' hE => by (repeat (with_reducible replace hE := Ext.unD hE)); have hcE := hE.hc; clear hE; go_simp; rfl) ?_
        simp only [Act.put, List.setIfInBounds_toArray, List.set_cons_succ, List.set_cons_zero]
        refine plan_callv1 en_TmCompare (hi_of HO rfl) (by rw [HO.out]; rfl) rfl (by go_simp; rfl) (by go_simp; rfl) (by exact compareA_any y a _) ?_
        rintro e v6 ⟨rfl, hx6⟩
        refine ⟨_, rfl, fun _ => hx6, ?_⟩
        have HQ := hid_mk (Ext.unD hx6)
        rw [HCV.out]
        clear hx6
        simp only [Act.put, List.setIfInBounds_toArray, List.set_cons_succ, List.set_cons_zero]
        refine plan_read _ (hi_of HO rfl) (by rw [HO.out]; rfl) (fun w' hE => by (repeat (with_reducible replace hE := Ext.unD hE)); have hcE := hE.hc; clear hE; go_simp; rfl) ?_
        simp only [Act.put, List.setIfInBounds_toArray, List.set_cons_succ, List.set_cons_zero]
        refine plan_read _ (hi_of HO rfl) rfl (fun w' hE => by (repeat (with_reducible replace hE := Ext.unD hE)); have hcE := hE.hc; clear hE; go_simp; rfl) ?_
        simp only [Act.put, List.setIfInBounds_toArray, List.set_cons_succ, List.set_cons_zero]
        refine plan_read _ (hi_of HO rfl) rfl (fun w' hE => by (repeat (with_reducible replace hE := Ext.unD hE)); have hcE := hE.hc; clear hE; go_simp; rfl) ?_
        simp only [Act.put, List.setIfInBounds_toArray, List.set_cons_succ, List.set_cons_zero]
        refine plan_read _ (hi_of HO rfl) rfl (fun w' hE => by (repeat (with_reducible replace hE := Ext.unD hE)); have hcE := hE.hc; clear hE; go_simp; rfl) ?_
        simp only [Act.put, List.setIfInBounds_toArray, List.set_cons_succ, List.set_cons_zero]
        refine plan_done ?fin102
        go_wp2
        refine bodyPost_ret (v := .tuple #[.int .i64 (p : Int), .bool (cv == 0)]) (by unfold results; rw [Try.results47]; go_simp) rfl ⟨?_, Ext.trans _ _ _ HX.out (Ext.trans _ _ _ HXR.out (by first | exact HQ.out | exact Ext.drew HQ.out))⟩
        rw [HFC.out, ← HP.out]
        rfl
      · have hpe : p = l.length := by omega
        have hpl' : ¬ (p : Int) < (l.length : Int) := by omega
        have HF := hid_mk (show foundA a l = false by
          unfold foundA
          rw [decide_eq_false_iff_not]
          rintro ⟨h1, -⟩
          rw [← HP.out] at h1
          omega)
        go_wp2_with fail
        refine wp_region_held_below (fun _ => true) (.quiet 0 (.quiet 1 (.quiet 2 (.quiet 3 (.quiet 4 (.quiet 5 (.quiet 6 (.quiet 7 (.quiet 8 (.quiet 9 (.quiet 10 (.alt 11 (.quiet 12 (.quiet 13 (.quiet 14 (.quiet 15 .done)))) .stop)))))))))))) (by kernel_rfl) (by kernel_rfl) (by intro c a w d v h; cases d <;> exact h) (fun ops HO => ?_)
        refine plan_read _ (hi_of HO rfl) rfl (fun w' hE => by (repeat (with_reducible replace hE := Ext.unD hE)); have hcE := hE.hc; clear hE; go_simp; rfl) ?_
        simp only [Act.put, List.setIfInBounds_toArray, List.set_cons_succ, List.set_cons_zero]
        refine plan_read _ (hi_of HO rfl) rfl (fun w' hE => by (repeat (with_reducible replace hE := Ext.unD hE)); have hcE := hE.hc; clear hE; go_simp; rfl) ?_
        simp only [Act.put, List.setIfInBounds_toArray, List.set_cons_succ, List.set_cons_zero]
        refine plan_read _ (hi_of HO rfl) rfl (fun w' hE => by (repeat (with_reducible replace hE := Ext.unD hE)); have hcE := hE.hc; clear hE; go_simp; rfl) ?_
        simp only [Act.put, List.setIfInBounds_toArray, List.set_cons_succ, List.set_cons_zero]
        refine plan_read _ (hi_of HO rfl) rfl (fun w' hE => by (repeat (with_reducible replace hE := Ext.unD hE)); have hcE := hE.hc; clear hE; go_simp; rfl) ?_
        simp only [Act.put, List.setIfInBounds_toArray, List.set_cons_succ, List.set_cons_zero]
        refine plan_read _ (hi_of HO rfl) rfl (fun w' hE => by (repeat (with_reducible replace hE := Ext.unD hE)); have hcE := hE.hc; clear hE; go_simp; rfl) ?_
        simp only [Act.put, List.setIfInBounds_toArray, List.set_cons_succ, List.set_cons_zero]
        refine plan_skip (hi_of HO rfl) (by rw [HO.out]; rfl) ?_
        simp only [Act.put, List.setIfInBounds_toArray, List.set_cons_succ, List.set_cons_zero]
        refine plan_skip (hi_of HO rfl) (by rw [HO.out]; rfl) ?_
        simp only [Act.put, List.setIfInBounds_toArray, List.set_cons_succ, List.set_cons_zero]
        refine plan_skip (hi_of HO rfl) (by rw [HO.out]; rfl) ?_
        simp only [Act.put, List.setIfInBounds_toArray, List.set_cons_succ, List.set_cons_zero]
        refine plan_skip (hi_of HO rfl) (by rw [HO.out]; rfl) ?_
        simp only [Act.put, List.setIfInBounds_toArray, List.set_cons_succ, List.set_cons_zero]
        refine plan_skip (hi_of HO rfl) (by rw [HO.out]; rfl) ?_
        simp only [Act.put, List.setIfInBounds_toArray, List.set_cons_succ, List.set_cons_zero]
        refine plan_skip (hi_of HO rfl) (by rw [HO.out]; rfl) ?_
        simp only [Act.put, List.setIfInBounds_toArray, List.set_cons_succ, List.set_cons_zero]
        refine plan_skip1 (hi_of HO rfl) (by rw [HO.out]; rfl) (Ext.refl _) ?_
        simp only [Act.put, List.setIfInBounds_toArray, List.set_cons_succ, List.set_cons_zero]
        refine plan_skip (hi_of HO rfl) (by rw [HO.out]; rfl) ?_
        simp only [Act.put, List.setIfInBounds_toArray, List.set_cons_succ, List.set_cons_zero]
        refine plan_read _ (hi_of HO rfl) rfl (fun w' hE => by (repeat (with_reducible replace hE := Ext.unD hE)); have hcE := hE.hc; clear hE; go_simp; rfl) ?_
        simp only [Act.put, List.setIfInBounds_toArray, List.set_cons_succ, List.set_cons_zero]
        refine plan_read _ (hi_of HO rfl) rfl (fun w' hE => by (repeat (with_reducible replace hE := Ext.unD hE)); have hcE := hE.hc; clear hE; go_simp; rfl) ?_
        simp only [Act.put, List.setIfInBounds_toArray, List.set_cons_succ, List.set_cons_zero]
        refine plan_read _ (hi_of HO rfl) rfl (fun w' hE => by (repeat (with_reducible replace hE := Ext.unD hE)); have hcE := hE.hc; clear hE; go_simp; rfl) ?_
        simp only [Act.put, List.setIfInBounds_toArray, List.set_cons_succ, List.set_cons_zero]
        refine plan_done ?fin103
        go_wp2
        refine bodyPost_ret (v := .tuple #[.int .i64 (p : Int), .bool false]) (by unfold results; rw [Try.results47]; go_simp) rfl ⟨?_, Ext.trans _ _ _ HX.out (by first | exact HXR.out | exact Ext.drew HXR.out)⟩
        rw [HF.out, ← HP.out]
end Go.Proofs.Ytiimoaplhhnklaa
