/- The document's tree in memory: Rows, Fold. -/
import Derived.Test.YtgglbohcnlcagaaWA
namespace Go.Proofs.Ytgglbohcnlcagaa
open Go.RowKit
set_option maxHeartbeats 2000000
set_option maxRecDepth 100000
set_option linter.unusedSimpArgs false
set_option linter.unusedVariables false

theorem sl_len {α : Type} (L : List α) {p q : Nat} (h : q ≤ L.length) : (sl L p q).length = q - p := by unfold sl; rw [List.length_drop, List.length_take]; omega
theorem sl_get {α : Type} (L : List α) {p q i : Nat} (h : q ≤ L.length) (hi : i < (sl L p q).length) : (sl L p q)[i] = L[p + i]'(by rw [sl_len L h] at hi; omega) := by
  simp [sl]
theorem rrows_any {w : World} {rb : Nat} {L : List R1} (i j : Int) (hi : -9223372036854775808 ≤ i ∧ i ≤ 9223372036854775807) (hj : -9223372036854775808 ≤ j ∧ j ≤ 9223372036854775807) (h : RTree w rb L) :
    Calls Try.prog 117 #[.pointer (some ⟨rb, 0, none⟩), .int .i64 i, .int .i64 j] w fun e w' => (∃ sv, e = .returned sv ∧ RowsSl w sv (sl L i.toNat (min j.toNat L.length))) ∧ Ext w w' := by
  obtain ⟨⟨sv, h1, h2⟩, h3⟩ := h
  obtain ⟨a, c, rfl, hlc, hl42, hcells⟩ := h2
  have HC := hid_mk hcells
  have HLC := hid_mk (And.intro hlc hl42)
  have hrl := cell_lt h1
  obtain ⟨mi, hmi⟩ : ∃ mi : Int, (if i < 0 then (0 : Int) else i) = mi := ⟨_, rfl⟩
  obtain ⟨mj, hmj⟩ : ∃ mj : Int, (if (L.length : Int) < j then (L.length : Int) else j) = mj := ⟨_, rfl⟩
  have e1 : mi = (i.toNat : Int) := by rw [← hmi]; split <;> omega
  have e2 : mj ≤ (L.length : Int) ∧ (mj = j ∨ mj = (L.length : Int)) ∧ mj ≤ j := by rw [← hmj]; split <;> omega
  clear hcells hlc hl42 h3
  by_cases hc : mj ≤ mi
  · have HS := hid_mk (show sl L i.toNat (min j.toNat L.length) = [] from sl_none _ (by omega))
    clear e1 e2
    go_enter Try.func117, Try.ntmps117
    go_wp2_with fail
    refine wp_region_held_below (fun _ => true) (.quiet 0 (.quiet 1 (.quiet 2 (.quiet 3 (.quiet 4 (.quiet 5 (.quiet 6 (.quiet 7 (.quiet 8 (.quiet 9 (.quiet 10 .done))))))))))) (by kernel_rfl) (by kernel_rfl) (by intro c a w d v h; cases d <;> exact h) (fun ops HO => ?_)
    refine plan_read _ (hi_of HO rfl) rfl (fun w' hE => by (repeat (with_reducible replace hE := Ext.unD hE)); have hcE := hE.hc; clear hE; go_simp; rfl) ?_
    simp only [Act.put, List.setIfInBounds_toArray, List.set_cons_succ, List.set_cons_zero]
    refine plan_read _ (hi_of HO rfl) rfl (fun w' hE => by (repeat (with_reducible replace hE := Ext.unD hE)); have hcE := hE.hc; clear hE; go_simp; rfl) ?_
    simp only [Act.put, List.setIfInBounds_toArray, List.set_cons_succ, List.set_cons_zero]
    refine plan_read _ (hi_of HO rfl) rfl (fun w' hE => by (repeat (with_reducible replace hE := Ext.unD hE)); have hcE := hE.hc; clear hE; go_simp; rfl) ?_
    simp only [Act.put, List.setIfInBounds_toArray, List.set_cons_succ, List.set_cons_zero]
    refine plan_read _ (hi_of HO rfl) rfl (fun w' hE => by (repeat (with_reducible replace hE := Ext.unD hE)); have hcE := hE.hc; clear hE; go_simp; rfl) ?_
    simp only [Act.put, List.setIfInBounds_toArray, List.set_cons_succ, List.set_cons_zero]
    refine plan_read _ (hi_of HO rfl) rfl (fun w' hE => by (repeat (with_reducible replace hE := Ext.unD hE)); have hcE := hE.hc; clear hE; go_simp; rfl) ?_
    simp only [Act.put, List.setIfInBounds_toArray, List.set_cons_succ, List.set_cons_zero]
    refine plan_read _ (hi_of HO rfl) rfl (fun w' hE => by (repeat (with_reducible replace hE := Ext.unD hE)); have hcE := hE.hc; clear hE; go_simp; rfl) ?_
    simp only [Act.put, List.setIfInBounds_toArray, List.set_cons_succ, List.set_cons_zero]
    refine plan_read _ (hi_of HO rfl) rfl (fun w' hE => by (repeat (with_reducible replace hE := Ext.unD hE)); have hcE := hE.hc; clear hE; go_simp; rfl) ?_
    simp only [Act.put, List.setIfInBounds_toArray, List.set_cons_succ, List.set_cons_zero]
    refine plan_read _ (hi_of HO rfl) rfl (fun w' hE => by (repeat (with_reducible replace hE := Ext.unD hE)); have hcE := hE.hc; clear hE; go_simp; rfl) ?_
    simp only [Act.put, List.setIfInBounds_toArray, List.set_cons_succ, List.set_cons_zero]
    refine plan_read _ (hi_of HO rfl) rfl (fun w' hE => by (repeat (with_reducible replace hE := Ext.unD hE)); have hcE := hE.hc; clear hE; go_simp; rfl) ?_
    simp only [Act.put, List.setIfInBounds_toArray, List.set_cons_succ, List.set_cons_zero]
    refine plan_read _ (hi_of HO rfl) rfl (fun w' hE => by (repeat (with_reducible replace hE := Ext.unD hE)); have hcE := hE.hc; clear hE; go_simp; rfl) ?_
    simp only [Act.put, List.setIfInBounds_toArray, List.set_cons_succ, List.set_cons_zero]
    refine plan_read _ (hi_of HO rfl) rfl (fun w' hE => by (repeat (with_reducible replace hE := Ext.unD hE)); have hcE := hE.hc; clear hE; go_simp; rfl) ?_
    simp only [Act.put, List.setIfInBounds_toArray, List.set_cons_succ, List.set_cons_zero]
    refine plan_done ?fin101
    go_wp2
    go_ret
    exact ⟨⟨_, rfl, by rw [HS.out]; exact ⟨_, _, rfl, by simp, by simp, by simp⟩⟩, by (repeat (first | exact Ext.refl _ | apply Ext.drew_left | apply Ext.drew | apply Ext.alloc))⟩
  · have hmj2 : mj = ((min j.toNat L.length : Nat) : Int) := by omega
    obtain ⟨p, hp⟩ : ∃ p : Nat, i.toNat = p := ⟨_, rfl⟩
    obtain ⟨q, hq⟩ : ∃ q : Nat, min j.toNat L.length = q := ⟨_, rfl⟩
    rw [hp] at e1 ⊢
    rw [hq] at hmj2 ⊢
    subst e1 hmj2
    obtain ⟨b, o, rfl, hrows⟩ := HC.out (by omega)
    have HRW := hid_mk hrows
    have k1 : ¬ ((q : Int) ≤ (p : Int)) := hc
    have k2 : (0 : Int) ≤ (p : Int) := by omega
    have k3 : (p : Int) ≤ (q : Int) := by omega
    have k4 : (q : Int) ≤ (c : Int) := by have := HLC.out.1; omega
    have k5 : ¬ c = p := by have := HLC.out.1; omega
    have HPQ := hid_mk (show p < q ∧ q ≤ L.length by omega)
    clear hrows e2 hc hp hq
    go_enter Try.func117, Try.ntmps117
    go_wp2_with fail
    refine wp_region_held_below (fun _ => true) (.quiet 0 (.quiet 1 (.quiet 2 (.quiet 3 (.quiet 4 (.quiet 5 (.quiet 6 (.quiet 7 (.quiet 8 (.quiet 9 (.quiet 10 .done))))))))))) (by kernel_rfl) (by kernel_rfl) (by intro c a w d v h; cases d <;> exact h) (fun ops HO => ?_)
    refine plan_read _ (hi_of HO rfl) rfl (fun w' hE => by (repeat (with_reducible replace hE := Ext.unD hE)); have hcE := hE.hc; clear hE; go_simp; rfl) ?_
    simp only [Act.put, List.setIfInBounds_toArray, List.set_cons_succ, List.set_cons_zero]
    refine plan_read _ (hi_of HO rfl) rfl (fun w' hE => by (repeat (with_reducible replace hE := Ext.unD hE)); have hcE := hE.hc; clear hE; go_simp; rfl) ?_
    simp only [Act.put, List.setIfInBounds_toArray, List.set_cons_succ, List.set_cons_zero]
    refine plan_read _ (hi_of HO rfl) rfl (fun w' hE => by (repeat (with_reducible replace hE := Ext.unD hE)); have hcE := hE.hc; clear hE; go_simp; rfl) ?_
    simp only [Act.put, List.setIfInBounds_toArray, List.set_cons_succ, List.set_cons_zero]
    refine plan_read _ (hi_of HO rfl) rfl (fun w' hE => by (repeat (with_reducible replace hE := Ext.unD hE)); have hcE := hE.hc; clear hE; go_simp; rfl) ?_
    simp only [Act.put, List.setIfInBounds_toArray, List.set_cons_succ, List.set_cons_zero]
    refine plan_read _ (hi_of HO rfl) rfl (fun w' hE => by (repeat (with_reducible replace hE := Ext.unD hE)); have hcE := hE.hc; clear hE; go_simp; rfl) ?_
    simp only [Act.put, List.setIfInBounds_toArray, List.set_cons_succ, List.set_cons_zero]
    refine plan_read _ (hi_of HO rfl) rfl (fun w' hE => by (repeat (with_reducible replace hE := Ext.unD hE)); have hcE := hE.hc; clear hE; go_simp; rfl) ?_
    simp only [Act.put, List.setIfInBounds_toArray, List.set_cons_succ, List.set_cons_zero]
    refine plan_read _ (hi_of HO rfl) rfl (fun w' hE => by (repeat (with_reducible replace hE := Ext.unD hE)); have hcE := hE.hc; clear hE; go_simp; rfl) ?_
    simp only [Act.put, List.setIfInBounds_toArray, List.set_cons_succ, List.set_cons_zero]
    refine plan_read _ (hi_of HO rfl) rfl (fun w' hE => by (repeat (with_reducible replace hE := Ext.unD hE)); have hcE := hE.hc; clear hE; go_simp; rfl) ?_
    simp only [Act.put, List.setIfInBounds_toArray, List.set_cons_succ, List.set_cons_zero]
    refine plan_read _ (hi_of HO rfl) rfl (fun w' hE => by (repeat (with_reducible replace hE := Ext.unD hE)); have hcE := hE.hc; clear hE; go_simp; rfl) ?_
    simp only [Act.put, List.setIfInBounds_toArray, List.set_cons_succ, List.set_cons_zero]
    refine plan_read _ (hi_of HO rfl) rfl (fun w' hE => by (repeat (with_reducible replace hE := Ext.unD hE)); have hcE := hE.hc; clear hE; go_simp; rfl) ?_
    simp only [Act.put, List.setIfInBounds_toArray, List.set_cons_succ, List.set_cons_zero]
    refine plan_read _ (hi_of HO rfl) rfl (fun w' hE => by (repeat (with_reducible replace hE := Ext.unD hE)); have hcE := hE.hc; clear hE; go_simp; rfl) ?_
    simp only [Act.put, List.setIfInBounds_toArray, List.set_cons_succ, List.set_cons_zero]
    refine plan_done ?fin102
    go_wp2
    go_ret
    refine ⟨⟨_, rfl, some ⟨b, o + p * 4, none⟩, c - p, ?_, ?_, ?_, fun _ => ⟨b, o + p * 4, rfl, fun i hi => ?_⟩⟩, by (repeat (first | exact Ext.refl _ | apply Ext.drew_left | apply Ext.drew | apply Ext.alloc))⟩
    · rw [sl_len L HPQ.out.2]; rfl
    · rw [sl_len L HPQ.out.2]; have := HLC.out.1; have := HPQ.out; omega
    · rw [sl_len L HPQ.out.2]; have := HLC.out.2; have := HPQ.out; omega
    · have hi' := hi
      rw [sl_len L HPQ.out.2] at hi'
      have h := HRW.out (p + i) (by have := HPQ.out; omega)
      rw [sl_get L HPQ.out.2 hi]
      have e : o + p * 4 + i * 4 = o + (p + i) * 4 := by omega
      rw [e]
      exact h
/-- What the document's fold comes to. -/
def mfL (L : List R1) (i j : Int) : Int × Int := foldP jm zm (sl (L.map (·.2.2)) i.toNat (min j.toNat L.length))
theorem mfL_mf (T : T1) (i j : Int) : mfL T.rows i j = mf T i j := by unfold mfL mf; rw [Tr.rows_len]
theorem foldl_zm : ∀ {S : List (Int × Int)}, (∀ s ∈ S, InM s) → S.foldl jm zm = foldP jm zm S
  | [], _ => rfl
  | s :: S, h => by rw [List.foldl_cons, jm_l (h s (by simp))]; rfl
theorem box_new (w : World) (x : Int × Int) : Box1 (w.alloc (.cells #[.int .u64 x.1, .int .u64 x.2] 62)) w.heap.size x := ⟨by go_simp, by go_simp, by go_simp, by go_simp⟩
theorem box_nostr (w : World) (x : Int × Int) (o : Nat) (k : ByteArray) : (w.alloc (.cells #[.int .u64 x.1, .int .u64 x.2] 62)).cell? ⟨w.heap.size, o, none⟩ ≠ some (.string k) := by
  intro h
  rcases o with _ | _ | o
  · have h1 := (box_new w x).c0.symm.trans h; cases h1
  · have h1 := (box_new w x).c1.symm.trans h; cases h1
  · rw [World.cell?_alloc_new] at h
    simp at h
theorem rfold_any {w : World} {rb : Nat} {L : List R1} (i j : Int) (hi : -9223372036854775808 ≤ i ∧ i ≤ 9223372036854775807) (hj : -9223372036854775808 ≤ j ∧ j ≤ 9223372036854775807) (h : RTree w rb L) (hin : ∀ r ∈ L, InM r.2.2) :
    Calls Try.prog 99 #[.pointer (some ⟨rb, 0, none⟩), .int .i64 i, .int .i64 j] w fun e w' => e = .returned (.agg #[.int .u64 (mfL L i j).1, .int .u64 (mfL L i j).2]) ∧ Ext w w' := by
  obtain ⟨S, hS⟩ : ∃ S, sl L i.toNat (min j.toNat L.length) = S := ⟨_, rfl⟩
  have hm : mfL L i j = (S.map (·.2.2)).foldl jm zm := by
    have h1 : S.map (·.2.2) = sl (L.map (·.2.2)) i.toNat (min j.toNat L.length) := by rw [← hS]; simp [sl, List.map_drop, List.map_take]
    rw [h1, foldl_zm]
    · rfl
    · intro s hs
      obtain ⟨r, hr, rfl⟩ := List.mem_map.1 (sl_mem hs)
      exact hin r hr
  rw [hm]
  have HH := hid_mk h
  have HS := hid_mk hS
  clear hS h hm hin
  go_enter Try.func99, Try.ntmps99
  go_wp2_with fail
  refine (rzero_any _).mono ?_
  rintro e w1 ⟨rfl, hx1⟩
  have hq6 : w1.cell? ⟨w.heap.size, 0, none⟩ = some (.int .u64 0) ∧ w1.cell? ⟨w.heap.size, 1, none⟩ = some (.int .u64 0) := ⟨cell_ext hx1 (by go_simp), cell_ext hx1 (by go_simp)⟩
  have hz6 : w1.frozen? ⟨w.heap.size, 0, none⟩ = false ∧ w1.frozen? ⟨w.heap.size, 1, none⟩ = false := ⟨(Xt.of hx1 : Xt none _ _).fz (v := .int .u64 0) (by go_simp) (by simp) (by go_simp), (Xt.of hx1 : Xt none _ _).fz (v := .int .u64 0) (by go_simp) (by simp) (by go_simp)⟩
  have HB6 := hid_mk (show Box1 w1 w.heap.size (0, 0) from ⟨hq6.1, hq6.2, hz6.1, hz6.2⟩)
  have HX1 := hid_mk (Ext.trans w _ _ (by (repeat (first | exact Ext.refl _ | apply Ext.drew_left | apply Ext.drew | apply Ext.alloc))) hx1)
  have hq67 := cell_lt hq6.1
  clear hx1 hq6 hz6
  go_wp2_with fail
  obtain ⟨W2, hW2⟩ : ∃ W, w1.alloc (.cells #[.int .u64 1, .int .u64 0] 62) = W := ⟨_, rfl⟩
  obtain ⟨q7, hq7⟩ : ∃ q, w1.heap.size = q := ⟨_, rfl⟩
  obtain ⟨q6, hq6⟩ : ∃ q, w.heap.size = q := ⟨_, rfl⟩
  have hb7 : Box1 W2 w1.heap.size zm := hW2 ▸ box_new w1 zm
  have hns : ∀ o k, W2.cell? ⟨w1.heap.size, o, none⟩ ≠ some (.string k) := hW2 ▸ box_nostr w1 zm
  have hx2 : Ext w1 W2 := by rw [← hW2]; exact (Ext.refl _).alloc _
  have hl7 := cell_lt hb7.c0
  rw [hq7] at hb7 hl7 hq67 hns
  have HNS := hid_mk hns
  rw [hq6] at HB6 hq67
  simp only [hW2, hq7, hq6]
  have HB7 := hid_mk hb7
  replace HB6 := hid_mk (HB6.out.xt (Xt.of hx2 : Xt none _ _) (by simp))
  replace HX1 := hid_mk (Ext.trans _ _ _ HX1.out hx2)
  have HQ := hid_mk (show w.heap.size ≤ q6 ∧ w.heap.size ≤ q7 ∧ q6 ≠ q7 by have := HX1.out.below.size; omega)
  clear hW2 hq7 hq6 hb7 hx2 hq67 hns
  refine (rrows_any i j hi hj (HH.out.ext HX1.out)).mono ?_
  rintro e w3 ⟨⟨sv, rfl, hSl⟩, hx3⟩
  rw [HS.out] at hSl
  obtain ⟨a, c, rfl, hlc, hl42, hcells⟩ := hSl
  have HC := hid_mk hcells
  have HLC := hid_mk (And.intro hlc hl42)
  replace HB6 := hid_mk (HB6.out.xt (Xt.of hx3 : Xt none _ _) (by simp))
  replace HB7 := hid_mk (HB7.out.xt (Xt.of hx3 : Xt none _ _) (by simp))
  have HX3 := hid_mk hx3
  clear hcells hlc hl42 hx3
  go_wp2_with fail
  go_loopw [16] (fun x wr => ∃ m : Nat, m ≤ S.length ∧ x = .int .i64 (m : Int) ∧ Box1 wr q6 (0, 0) ∧ Box1 wr q7 (((S.take m).map (·.2.2)).foldl jm zm) ∧ Xt (some q7) W2 wr) (fun x _ => S.length - (intOf x).toNat)
  case atStart => exact ⟨0, Nat.zero_le _, rfl, HB6.out, HB7.out, Xt.of HX3.out⟩
  case round =>
    clear HB6 HB7 HX3
    obtain ⟨m, hm, rfl, hb6, hb7, hx⟩ := hrel
    have HB6 := hid_mk hb6
    have HB7 := hid_mk hb7
    have HXR := hid_mk hx
    clear hb6 hb7 hx
    by_cases hlt : m < S.length
    · obtain ⟨b, o, rfl, hrows⟩ := HC.out (by omega)
      have hbn : (some q7 : Option Nat) ≠ some b := by
        intro e
        cases e
        exact HNS.out _ _ (hrows m hlt).1
      obtain ⟨r0, r1, r2, r3⟩ := hrows.xt HXR.out hbn m hlt
      have hbl := cell_lt r0
      obtain ⟨s0, s1, s2, s3⟩ := HB7.out
      have hsl := cell_lt s0
      have hm63 : (m : Int) < (S.length : Int) := by omega
      have hm0 : (0 : Int) ≤ (m : Int) := by omega
      have hw1 : wrap64 ((m : Int) + 1) = (m : Int) + 1 := w64in (by have := HLC.out.2; omega)
      have HST := hid_mk (show ((S.take (m + 1)).map (·.2.2)).foldl jm zm = jm (((S.take m).map (·.2.2)).foldl jm zm) S[m].2.2 by
        rw [List.take_succ_eq_append_getElem hlt, List.map_append, List.foldl_append]; rfl)
      generalize ((S.take m).map (·.2.2)).foldl jm zm = A at *
      generalize S[m] = r at *
      clear hrows
      go_wp2_with fail
      refine (rjoin_any A r.2.2 _).mono ?_
      rintro e w5 ⟨rfl, hx5⟩
      have hx6 : Ext wr w5 := Ext.trans _ _ _ (by (repeat (first | exact Ext.refl _ | apply Ext.drew_left | apply Ext.drew | apply Ext.alloc | (refine Ext.setX ?_ (by simp))))) hx5
      have HX6 := hid_mk hx6
      clear r0 r1 r2 r3 hbl s0 s1 s2 s3 hsl hx5
      obtain ⟨s0, s1, s2, s3⟩ := HB7.out.xt (Xt.of hx6 : Xt none _ _) (by simp)
      have hsl := cell_lt s0
      clear hx6
      generalize hJ : jm A r.2.2 = J at *
      go_wp2
      go_roundw
      case rel =>
        refine ⟨m + 1, Nat.succ_le_of_lt hlt, (by first | exact congrArg (Value.int .i64) hw1 | rfl), (HB6.out.xt (Xt.of HX6.out : Xt none _ _) (by simp)).off HQ.out.2.2, ?_, Xt.trans _ _ _ (Xt.trans _ _ _ HXR.out (Xt.of HX6.out)) (Xt.trans _ _ _ Xt.setAt Xt.setAt)⟩
        rw [HST.out]
        exact (HB7.out.xt (Xt.of HX6.out : Xt none _ _) (by simp)).set
      case measure => (try simp only [hw1]); clear hw1; simp [intOf]; omega
    · obtain rfl : m = S.length := by omega
      rw [List.take_length] at HB7
      obtain ⟨s0, s1, s2, s3⟩ := HB7.out
      obtain ⟨u0, u1, u2, u3⟩ := HB6.out
      have hsl := cell_lt s0
      have hul := cell_lt u0
      have hmm : ¬ ((S.length : Nat) : Int) < (S.length : Int) := by omega
      generalize hJ : (S.map (·.2.2)).foldl jm zm = J at *
      have HJ := hid_mk hJ
      clear hJ
      go_wp2
      refine bodyPost_ret (v := .agg #[.int .u64 J.1, .int .u64 J.2]) (by unfold results; rw [Try.results99]; go_simp) rfl ⟨by rw [HJ.out], ?_⟩
      have h9 : Ext w wr := by
        have hb := HX1.out.below
        have hr := HXR.out
        exact Ext.of ⟨hr.os.trans hb.os, hr.tape.trans hb.tape, hr.output.trans hb.output, Nat.le_trans hb.size hr.size, fun k hk =>
          (hr.block k (Nat.lt_of_lt_of_le hk hb.size) (fun e => by have := HQ.out.2.1; cases e; omega)).trans (hb.block k hk)⟩
      exact ext_set (ext_set h9 HQ.out.1) HQ.out.1
end Go.Proofs.Ytgglbohcnlcagaa
