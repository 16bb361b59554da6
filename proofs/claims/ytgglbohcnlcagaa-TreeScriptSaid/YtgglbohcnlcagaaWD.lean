/- The document's tree in memory: Put. -/
import Derived.Test.YtgglbohcnlcagaaWC
namespace Go.Proofs.Ytgglbohcnlcagaa
open Go.RowKit
set_option maxHeartbeats 2000000
set_option maxRecDepth 100000
set_option linter.unusedSimpArgs false
set_option linter.unusedVariables false

theorem ins_cut {k : ByteArray} {v : Int} {s : Int × Int} : ∀ {L : List R1}, Srt L → ins k v s L = L.take (cnt k L) ++ (k, v, s) :: L.drop (cnt k L + if (fnd k L).isSome = true then 1 else 0)
  | [], _ => by simp [ins, cnt, fnd]
  | a :: L, h => by
    have h' := List.pairwise_cons.1 h
    have ih := ins_cut (k := k) (v := v) (s := s) h'.2
    simp only [ins]
    by_cases hk : blt a.1 k
    · have e1 : cnt k (a :: L) = cnt k L + 1 := by simp [cnt, hk]
      have e2 : fnd k (a :: L) = fnd k L := by
        have : ¬ a.1 = k := fun e => by rw [e] at hk; exact blt_irrefl _ hk
        simp [fnd, this]
      rw [if_pos hk, ih, e1, e2, List.take_succ_cons, show cnt k L + 1 + (if (fnd k L).isSome = true then 1 else 0) = (cnt k L + if (fnd k L).isSome = true then 1 else 0) + 1 by omega, List.drop_succ_cons]
      rfl
    · have h0 : cnt k (a :: L) = 0 := cnt_zero fun r hr => by
        rcases List.mem_cons.1 hr with rfl | hr
        · exact hk
        · intro h2; exact hk (blt_trans (h'.1 r hr) h2)
      rw [if_neg hk, h0]
      by_cases hk2 : blt k a.1
      · have e2 : fnd k (a :: L) = none := Tr.fnd_none fun r hr e => by
          rcases List.mem_cons.1 hr with rfl | hr
          · rw [e] at hk2; exact blt_irrefl _ hk2
          · have := blt_trans hk2 (h'.1 r hr); rw [e] at this; exact blt_irrefl _ this
        rw [if_pos hk2, e2]
        simp
      · have e := blt_eq hk hk2
        have e2 : fnd k (a :: L) = some a := by simp [fnd, e]
        rw [if_neg hk2, e2]
        simp
attribute [-go_sem] Builtin.append_
theorem own_set {w : World} {B : Nat} {v : Value} {M : List R1} (h : OwnR w B v M) (hl : M.length ≤ 4398046511104) {rb o : Nat} {u : Value} (hb : rb < B) : RowsSl (w.setCell ⟨rb, o, none⟩ u) v M := by
  rcases Nat.eq_zero_or_pos M.length with h0 | hp
  · have hM := List.eq_nil_of_length_eq_zero h0
    subst hM
    obtain ⟨a, c, rfl⟩ := own_form h
    exact ⟨a, c, rfl, by simp, by simp, by simp⟩
  · obtain ⟨g, c, rfl, h1, h2, h3⟩ := ownR_mine h hp
    exact ⟨_, _, rfl, h2, hl, fun _ => ⟨g, 0, rfl, h3.rows.xt (Xt.setAt : Xt (some rb) _ _) (by intro e; cases e; omega)⟩⟩
theorem rput_any {w : World} {rb : Nat} {L : List R1} (k : ByteArray) (v : Int) (s : Int × Int) (h : RTree w rb L) (hs : Srt L) (hl : L.length + 1 ≤ 3000000000000) :
    Calls Try.prog 94 #[.pointer (some ⟨rb, 0, none⟩), .string k, .int .i64 v, .agg #[.int .u64 s.1, .int .u64 s.2]] w fun e w' =>
      e = .returned (.tuple #[.int .i64 (((fnd k L).map (·.2.1)).getD 0), .bool (fnd k L).isSome]) ∧ RTree w' rb (ins k v s L) ∧ (∃ g, w.heap.size ≤ g ∧ RowsIn w' rb g) ∧ Xl [rb] w w' := by
  rw [ins_cut hs]
  have HH := hid_mk h
  have hcl := cnt_le (k := k) L
  obtain ⟨g1, hg1⟩ : ∃ g, ((fnd k L).map (·.2.1)).getD 0 = g := ⟨_, rfl⟩
  obtain ⟨g2, hg2⟩ : ∃ g, (fnd k L).isSome = g := ⟨_, rfl⟩
  obtain ⟨c, hc⟩ : ∃ c, cnt k L = c := ⟨_, rfl⟩
  rw [hg1, hg2, hc]
  rw [hc] at hcl
  have HG := hid_mk (And.intro hg1 (And.intro hg2 hc))
  have hgl : g2 = true → c < L.length := fun e => by
    have := (fnd_cnt hs k).1 (hg2.trans e)
    rw [hc] at this
    exact this.1
  have HGL := hid_mk hgl
  have HL := hid_mk (And.intro hl hcl)
  clear h hs hg1 hg2 hc hcl hl hgl
  go_enter Try.func94, Try.ntmps94
  go_wp2_with fail
  refine (rrank_any k (HH.out.ext (by (repeat (first | exact Ext.refl _ | apply Ext.drew_left | apply Ext.drew | apply Ext.alloc))))).mono ?_
  rintro e w1 ⟨rfl, hx1⟩
  have hq := box_new w s
  have HB := hid_mk (hq.xt (Xt.of hx1 : Xt none _ _) (by simp))
  have HX := hid_mk (Ext.trans w _ _ (by (repeat (first | exact Ext.refl _ | apply Ext.drew_left | apply Ext.drew | apply Ext.alloc))) hx1)
  rw [HG.out.2.2]
  clear hx1 hq
  go_wp2_with fail
  refine (rget_any k (HH.out.ext HX.out)).mono ?_
  rintro e w2 ⟨rfl, hx2⟩
  replace HB := hid_mk (HB.out.xt (Xt.of hx2 : Xt none _ _) (by simp))
  replace HX := hid_mk (Ext.trans w _ _ HX.out hx2)
  rw [HG.out.1, HG.out.2.1]
  clear hx2
  have hh := HH.out.ext HX.out
  obtain ⟨⟨sv, h1, h2⟩, h3⟩ := hh
  obtain ⟨a, cp, rfl, hlc, hl42, hrows⟩ := h2
  have hrl := cell_lt h1
  have HRT := hid_mk (And.intro hlc (And.intro hl42 hrows))
  have hsl1 : RowsSl w2 (.slice a c cp) (L.take c) := by
    refine ⟨a, cp, ?_, ?_, ?_, fun hp => ?_⟩
    · rw [List.length_take, Nat.min_eq_left HL.out.2]
    · rw [List.length_take]; omega
    · rw [List.length_take]; omega
    · rw [List.length_take] at hp
      obtain ⟨b, o, e, hr⟩ := hrows (by omega)
      refine ⟨b, o, e, fun m hm => ?_⟩
      have hm' : m < L.length := by rw [List.length_take] at hm; omega
      have h9 := hr m hm'
      rw [List.getElem_take]
      exact h9
  obtain ⟨v1, W3, hrun1, ho1, hg1⟩ := appendR_all (ownR_nil w2 w2.heap.size) hsl1 (by rw [List.length_take]; have := HL.out; simp; omega) (Nat.le_refl _)
  rw [List.nil_append] at ho1
  have hm1l : (L.take c).length ≤ c := List.length_take_le _ _
  obtain ⟨M1, hM1⟩ : ∃ M, L.take c = M := ⟨_, rfl⟩
  rw [hM1] at ho1 hm1l
  have hx3 := ext_grown (Ext.refl w2) hg1 (ownR_nil w2 w2.heap.size) (Nat.le_refl _)
  obtain ⟨b0, b1, b2, b3⟩ := HB.out.xt (Xt.of hx3 : Xt none _ _) (by simp)
  have hbl := cell_lt b0
  obtain ⟨v2, W4, hrun2, ho2, hg2⟩ := appendR_one (w := W3.alloc (.cells #[.string k, .int .i64 v, .int .u64 s.1, .int .u64 s.2] 75)) (own_ext ho1 ((Ext.refl W3).alloc _)) (b := W3.heap.size) (c := 1) (r := (k, v, s)) (by intro j u hu; rcases j with _ | _ | _ | _ | j <;> simp [cR] at hu <;> subst hu <;> go_simp) (by have := HL.out; omega) (by have := hx3.below.size; simp; omega)
  obtain ⟨M2, hM2⟩ : ∃ M, M1 ++ [(k, v, s)] = M := ⟨_, rfl⟩
  have hm2l : M2.length = M1.length + 1 := by rw [← hM2]; simp
  rw [hM2] at ho2
  have HMM := hid_mk (show L.take c ++ [(k, v, s)] = M2 ∧ M2.length ≤ c + 1 from ⟨by rw [hM1, hM2], by omega⟩)
  have HMP := hid_mk (show 0 < M2.length by omega)
  have HX4 := hid_mk (ext_grown (hx3.alloc _) hg2 (own_ext ho1 ((Ext.refl W3).alloc _)) (Nat.le_refl _))
  have HO2 := hid_mk ho2
  have h1' := cell_ext HX4.out h1
  have h3' : W4.frozen? ⟨rb, 0, none⟩ = false := (Xt.of HX4.out : Xt none _ _).fz h1 (by simp) h3
  have hrl' := cell_lt h1'
  obtain ⟨a1, c1, rfl⟩ := own_form ho1
  obtain ⟨a2, c2, rfl⟩ := own_form ho2
  have hc1 : (0 : Int) ≤ (c : Int) := by omega
  have hc2 : (c : Int) ≤ (cp : Int) := by have := HRT.out.1; have := HL.out.2; omega
  have hc3 : c ≤ cp := by omega
  have HRR := hid_mk hrows
  clear hrows ho1 hg1 hsl1 hx3 ho2 hg2 hM1 hM2 hm1l hm2l
  rcases Nat.eq_zero_or_pos L.length with h0 | hpos
  · obtain rfl : c = 0 := by have := HL.out.2; omega
    have hg2 : g2 = false := by
      cases g2 with
      | false => rfl
      | true => have := HGL.out rfl; omega
    subst hg2
    have HS0 := hid_mk (show ∀ cp : Nat, RowsSl W4 (.slice a 0 cp) (L.drop 0) from fun cp => by
      have hL := List.eq_nil_of_length_eq_zero h0
      rw [hL]
      exact ⟨_, cp, rfl, by simp, by simp, by simp⟩)
    cases a with
    | none =>
      obtain ⟨v3, W5, hrun3, ho3, hg3⟩ := appendR_all HO2.out (HS0.out cp) (by rw [List.length_drop]; have := HL.out; have := HMM.out.2; omega) (by have := HX4.out.below.size; omega)
      have HX5 := hid_mk (ext_grown HX4.out hg3 HO2.out (Nat.le_refl _))
      have HO3 := hid_mk ho3
      have hm3l : (M2 ++ L.drop (0)).length ≤ 3000000000001 := by rw [List.length_append, List.length_drop]; have := HL.out; have := HMM.out.2; omega
      obtain ⟨M3, hM3⟩ : ∃ M, M2 ++ L.drop (0) = M := ⟨_, rfl⟩
      rw [hM3] at ho3 HO3 hm3l
      have HM3 := hid_mk (And.intro hM3 hm3l)
      clear hM3 hm3l
      have k1 := cell_ext HX5.out h1
      have k2 : W5.frozen? ⟨rb, 0, none⟩ = false := (Xt.of HX5.out : Xt none _ _).fz h1 (by simp) h3
      have HK := hid_mk (And.intro k1 k2)
      have kl := cell_lt k1
      have HRB := hid_mk hrl
      obtain ⟨a3, c3, rfl⟩ := own_form ho3
      have hin := ownR_in ho3 (by rw [← HM3.out.1, List.length_append]; have := HMP.out; omega)
      have HIN := hid_mk (show ∃ g, w.heap.size ≤ g ∧ (0 < M3.length → ∃ o, a3 = some ⟨g, o, none⟩) from hin.imp fun g hg => ⟨by have := HX.out.below.size; have := hg.1; omega, hg.2⟩)
      clear ho3 hg3 hin
      go_wp2
      refine bodyPost_ret (v := .tuple #[.int .i64 g1, .bool false]) (by unfold results; rw [Try.results94]; go_simp) rfl ⟨rfl, ⟨⟨_, tset_eq HK.out.1, ?_⟩, tset_fz HK.out.2⟩, HIN.out.imp fun g hg => ⟨hg.1, _, _, _, tset_eq HK.out.1, hg.2⟩, (Xl.of (Ext.trans _ _ _ HX.out HX5.out)).set (by simp)⟩
      have h9 := own_set HO3.out (by have := HM3.out.2; omega) (rb := rb) (o := 0) (u := .slice a3 M3.length c3) HRB.out
      have e9 : L.take 0 ++ (k, v, s) :: L.drop (0) = M3 := by rw [← HM3.out.1, ← HMM.out.1, List.append_assoc]; rfl
      have h10 : RowsSl (W5.setCell ⟨rb, 0, none⟩ (.slice a3 M3.length c3)) (.slice a3 M3.length c3) (L.take 0 ++ (k, v, s) :: L.drop (0)) := by rw [e9]; exact h9
      exact h10
    | some ad =>
      by_cases hcap : cp = 0
      case pos =>
        subst hcap
        obtain ⟨v3, W5, hrun3, ho3, hg3⟩ := appendR_all HO2.out (HS0.out 0) (by rw [List.length_drop]; have := HL.out; have := HMM.out.2; omega) (by have := HX4.out.below.size; omega)
        have HX5 := hid_mk (ext_grown HX4.out hg3 HO2.out (Nat.le_refl _))
        have HO3 := hid_mk ho3
        have hm3l : (M2 ++ L.drop (0)).length ≤ 3000000000001 := by rw [List.length_append, List.length_drop]; have := HL.out; have := HMM.out.2; omega
        obtain ⟨M3, hM3⟩ : ∃ M, M2 ++ L.drop (0) = M := ⟨_, rfl⟩
        rw [hM3] at ho3 HO3 hm3l
        have HM3 := hid_mk (And.intro hM3 hm3l)
        clear hM3 hm3l
        have k1 := cell_ext HX5.out h1
        have k2 : W5.frozen? ⟨rb, 0, none⟩ = false := (Xt.of HX5.out : Xt none _ _).fz h1 (by simp) h3
        have HK := hid_mk (And.intro k1 k2)
        have kl := cell_lt k1
        have HRB := hid_mk hrl
        obtain ⟨a3, c3, rfl⟩ := own_form ho3
        have hin := ownR_in ho3 (by rw [← HM3.out.1, List.length_append]; have := HMP.out; omega)
        have HIN := hid_mk (show ∃ g, w.heap.size ≤ g ∧ (0 < M3.length → ∃ o, a3 = some ⟨g, o, none⟩) from hin.imp fun g hg => ⟨by have := HX.out.below.size; have := hg.1; omega, hg.2⟩)
        clear ho3 hg3 hin
        go_wp2
        refine bodyPost_ret (v := .tuple #[.int .i64 g1, .bool false]) (by unfold results; rw [Try.results94]; go_simp) rfl ⟨rfl, ⟨⟨_, tset_eq HK.out.1, ?_⟩, tset_fz HK.out.2⟩, HIN.out.imp fun g hg => ⟨hg.1, _, _, _, tset_eq HK.out.1, hg.2⟩, (Xl.of (Ext.trans _ _ _ HX.out HX5.out)).set (by simp)⟩
        have h9 := own_set HO3.out (by have := HM3.out.2; omega) (rb := rb) (o := 0) (u := .slice a3 M3.length c3) HRB.out
        have e9 : L.take 0 ++ (k, v, s) :: L.drop (0) = M3 := by rw [← HM3.out.1, ← HMM.out.1, List.append_assoc]; rfl
        have h10 : RowsSl (W5.setCell ⟨rb, 0, none⟩ (.slice a3 M3.length c3)) (.slice a3 M3.length c3) (L.take 0 ++ (k, v, s) :: L.drop (0)) := by rw [e9]; exact h9
        exact h10
      case neg =>
        obtain ⟨v3, W5, hrun3, ho3, hg3⟩ := appendR_all HO2.out (HS0.out cp) (by rw [List.length_drop]; have := HL.out; have := HMM.out.2; omega) (by have := HX4.out.below.size; omega)
        have HX5 := hid_mk (ext_grown HX4.out hg3 HO2.out (Nat.le_refl _))
        have HO3 := hid_mk ho3
        have hm3l : (M2 ++ L.drop (0)).length ≤ 3000000000001 := by rw [List.length_append, List.length_drop]; have := HL.out; have := HMM.out.2; omega
        obtain ⟨M3, hM3⟩ : ∃ M, M2 ++ L.drop (0) = M := ⟨_, rfl⟩
        rw [hM3] at ho3 HO3 hm3l
        have HM3 := hid_mk (And.intro hM3 hm3l)
        clear hM3 hm3l
        have k1 := cell_ext HX5.out h1
        have k2 : W5.frozen? ⟨rb, 0, none⟩ = false := (Xt.of HX5.out : Xt none _ _).fz h1 (by simp) h3
        have HK := hid_mk (And.intro k1 k2)
        have kl := cell_lt k1
        have HRB := hid_mk hrl
        obtain ⟨a3, c3, rfl⟩ := own_form ho3
        have hin := ownR_in ho3 (by rw [← HM3.out.1, List.length_append]; have := HMP.out; omega)
        have HIN := hid_mk (show ∃ g, w.heap.size ≤ g ∧ (0 < M3.length → ∃ o, a3 = some ⟨g, o, none⟩) from hin.imp fun g hg => ⟨by have := HX.out.below.size; have := hg.1; omega, hg.2⟩)
        clear ho3 hg3 hin
        go_wp2
        refine bodyPost_ret (v := .tuple #[.int .i64 g1, .bool false]) (by unfold results; rw [Try.results94]; go_simp) rfl ⟨rfl, ⟨⟨_, tset_eq HK.out.1, ?_⟩, tset_fz HK.out.2⟩, HIN.out.imp fun g hg => ⟨hg.1, _, _, _, tset_eq HK.out.1, hg.2⟩, (Xl.of (Ext.trans _ _ _ HX.out HX5.out)).set (by simp)⟩
        have h9 := own_set HO3.out (by have := HM3.out.2; omega) (rb := rb) (o := 0) (u := .slice a3 M3.length c3) HRB.out
        have e9 : L.take 0 ++ (k, v, s) :: L.drop (0) = M3 := by rw [← HM3.out.1, ← HMM.out.1, List.append_assoc]; rfl
        have h10 : RowsSl (W5.setCell ⟨rb, 0, none⟩ (.slice a3 M3.length c3)) (.slice a3 M3.length c3) (L.take 0 ++ (k, v, s) :: L.drop (0)) := by rw [e9]; exact h9
        exact h10
  · obtain ⟨b, o, rfl, hrows⟩ := HRR.out hpos
    have HRW := hid_mk hrows
    clear hrows
    have hsl3 : ∀ i, i ≤ L.length → RowsSl W4 (.slice (some ⟨b, o + i * 4, none⟩) (L.length - i) (cp - i)) (L.drop i) := fun i hi => by
      refine ⟨_, cp - i, by rw [List.length_drop], by rw [List.length_drop]; omega, by rw [List.length_drop]; omega, fun hp => ⟨b, o + i * 4, rfl, fun m hm => ?_⟩⟩
      have hm' : i + m < L.length := by rw [List.length_drop] at hm; omega
      have h9 := (HRW.out.xt (Xt.of HX4.out : Xt none _ _) (by simp)) (i + m) hm'
      have e : o + i * 4 + m * 4 = o + (i + m) * 4 := by omega
      rw [e, List.getElem_drop]
      exact h9
    have hsl4 : ∀ i, i = L.length → RowsSl W4 (.slice (some ⟨b, o, none⟩) 0 0) (L.drop i) := fun i hi => by
      have e : L.drop i = [] := List.drop_eq_nil_of_le (by omega)
      rw [e]
      exact ⟨_, 0, rfl, by simp, by simp, by simp⟩
    have HS3 := hid_mk hsl3
    have HS4 := hid_mk hsl4
    clear hsl3 hsl4
    cases g2 with
    | false =>
      have hlc' : (L.length : Int) ≤ (cp : Int) := by omega
      have hcl' : (c : Int) ≤ (L.length : Int) := by have := HL.out.2; omega
      by_cases hcap : cp = c
      case pos =>
        have hcap' := hcap.symm
        clear hcap
        subst hcap'
        obtain ⟨v3, W5, hrun3, ho3, hg3⟩ := appendR_all HO2.out (HS4.out c (by have := HL.out.2; omega)) (by rw [List.length_drop]; have := HL.out; have := HMM.out.2; omega) (by have := HX4.out.below.size; omega)
        have HX5 := hid_mk (ext_grown HX4.out hg3 HO2.out (Nat.le_refl _))
        have HO3 := hid_mk ho3
        have hm3l : (M2 ++ L.drop (c)).length ≤ 3000000000001 := by rw [List.length_append, List.length_drop]; have := HL.out; have := HMM.out.2; omega
        obtain ⟨M3, hM3⟩ : ∃ M, M2 ++ L.drop (c) = M := ⟨_, rfl⟩
        rw [hM3] at ho3 HO3 hm3l
        have HM3 := hid_mk (And.intro hM3 hm3l)
        clear hM3 hm3l
        have k1 := cell_ext HX5.out h1
        have k2 : W5.frozen? ⟨rb, 0, none⟩ = false := (Xt.of HX5.out : Xt none _ _).fz h1 (by simp) h3
        have HK := hid_mk (And.intro k1 k2)
        have kl := cell_lt k1
        have HRB := hid_mk hrl
        obtain ⟨a3, c3, rfl⟩ := own_form ho3
        have hin := ownR_in ho3 (by rw [← HM3.out.1, List.length_append]; have := HMP.out; omega)
        have HIN := hid_mk (show ∃ g, w.heap.size ≤ g ∧ (0 < M3.length → ∃ o, a3 = some ⟨g, o, none⟩) from hin.imp fun g hg => ⟨by have := HX.out.below.size; have := hg.1; omega, hg.2⟩)
        clear ho3 hg3 hin
        go_wp2
        refine bodyPost_ret (v := .tuple #[.int .i64 g1, .bool false]) (by unfold results; rw [Try.results94]; go_simp) rfl ⟨rfl, ⟨⟨_, tset_eq HK.out.1, ?_⟩, tset_fz HK.out.2⟩, HIN.out.imp fun g hg => ⟨hg.1, _, _, _, tset_eq HK.out.1, hg.2⟩, (Xl.of (Ext.trans _ _ _ HX.out HX5.out)).set (by simp)⟩
        have h9 := own_set HO3.out (by have := HM3.out.2; omega) (rb := rb) (o := 0) (u := .slice a3 M3.length c3) HRB.out
        have e9 : L.take c ++ (k, v, s) :: L.drop (c) = M3 := by rw [← HM3.out.1, ← HMM.out.1, List.append_assoc]; rfl
        have h10 : RowsSl (W5.setCell ⟨rb, 0, none⟩ (.slice a3 M3.length c3)) (.slice a3 M3.length c3) (L.take c ++ (k, v, s) :: L.drop (c)) := by rw [e9]; exact h9
        exact h10
      case neg =>
        obtain ⟨v3, W5, hrun3, ho3, hg3⟩ := appendR_all HO2.out (HS3.out c HL.out.2) (by rw [List.length_drop]; have := HL.out; have := HMM.out.2; omega) (by have := HX4.out.below.size; omega)
        have HX5 := hid_mk (ext_grown HX4.out hg3 HO2.out (Nat.le_refl _))
        have HO3 := hid_mk ho3
        have hm3l : (M2 ++ L.drop (c)).length ≤ 3000000000001 := by rw [List.length_append, List.length_drop]; have := HL.out; have := HMM.out.2; omega
        obtain ⟨M3, hM3⟩ : ∃ M, M2 ++ L.drop (c) = M := ⟨_, rfl⟩
        rw [hM3] at ho3 HO3 hm3l
        have HM3 := hid_mk (And.intro hM3 hm3l)
        clear hM3 hm3l
        have k1 := cell_ext HX5.out h1
        have k2 : W5.frozen? ⟨rb, 0, none⟩ = false := (Xt.of HX5.out : Xt none _ _).fz h1 (by simp) h3
        have HK := hid_mk (And.intro k1 k2)
        have kl := cell_lt k1
        have HRB := hid_mk hrl
        obtain ⟨a3, c3, rfl⟩ := own_form ho3
        have hin := ownR_in ho3 (by rw [← HM3.out.1, List.length_append]; have := HMP.out; omega)
        have HIN := hid_mk (show ∃ g, w.heap.size ≤ g ∧ (0 < M3.length → ∃ o, a3 = some ⟨g, o, none⟩) from hin.imp fun g hg => ⟨by have := HX.out.below.size; have := hg.1; omega, hg.2⟩)
        clear ho3 hg3 hin
        go_wp2
        refine bodyPost_ret (v := .tuple #[.int .i64 g1, .bool false]) (by unfold results; rw [Try.results94]; go_simp) rfl ⟨rfl, ⟨⟨_, tset_eq HK.out.1, ?_⟩, tset_fz HK.out.2⟩, HIN.out.imp fun g hg => ⟨hg.1, _, _, _, tset_eq HK.out.1, hg.2⟩, (Xl.of (Ext.trans _ _ _ HX.out HX5.out)).set (by simp)⟩
        have h9 := own_set HO3.out (by have := HM3.out.2; omega) (rb := rb) (o := 0) (u := .slice a3 M3.length c3) HRB.out
        have e9 : L.take c ++ (k, v, s) :: L.drop (c) = M3 := by rw [← HM3.out.1, ← HMM.out.1, List.append_assoc]; rfl
        have h10 : RowsSl (W5.setCell ⟨rb, 0, none⟩ (.slice a3 M3.length c3)) (.slice a3 M3.length c3) (L.take c ++ (k, v, s) :: L.drop (c)) := by rw [e9]; exact h9
        exact h10
    | true =>
      have hgl := HGL.out rfl
      have hlc' : (L.length : Int) ≤ (cp : Int) := by omega
      have hcl' : (c : Int) + 1 ≤ (L.length : Int) := by omega
      have hc4 : (0 : Int) ≤ (c : Int) + 1 := by omega
      have e1 : wrap64 ((c : Int) + 1) = (c : Int) + 1 := w64in (by have := HL.out; omega)
      by_cases hcap : cp = c + 1
      case pos =>
        have hcap' := hcap.symm
        clear hcap
        subst hcap'
        obtain ⟨v3, W5, hrun3, ho3, hg3⟩ := appendR_all HO2.out (HS4.out (c + 1) (by clear e1; omega)) (by rw [List.length_drop]; have := HL.out; have := HMM.out.2; omega) (by have := HX4.out.below.size; omega)
        have HX5 := hid_mk (ext_grown HX4.out hg3 HO2.out (Nat.le_refl _))
        have HO3 := hid_mk ho3
        have hm3l : (M2 ++ L.drop ((c + 1))).length ≤ 3000000000001 := by rw [List.length_append, List.length_drop]; have := HL.out; have := HMM.out.2; omega
        obtain ⟨M3, hM3⟩ : ∃ M, M2 ++ L.drop ((c + 1)) = M := ⟨_, rfl⟩
        rw [hM3] at ho3 HO3 hm3l
        have HM3 := hid_mk (And.intro hM3 hm3l)
        clear hM3 hm3l
        have k1 := cell_ext HX5.out h1
        have k2 : W5.frozen? ⟨rb, 0, none⟩ = false := (Xt.of HX5.out : Xt none _ _).fz h1 (by simp) h3
        have HK := hid_mk (And.intro k1 k2)
        have kl := cell_lt k1
        have HRB := hid_mk hrl
        obtain ⟨a3, c3, rfl⟩ := own_form ho3
        have hin := ownR_in ho3 (by rw [← HM3.out.1, List.length_append]; have := HMP.out; omega)
        have HIN := hid_mk (show ∃ g, w.heap.size ≤ g ∧ (0 < M3.length → ∃ o, a3 = some ⟨g, o, none⟩) from hin.imp fun g hg => ⟨by have := HX.out.below.size; have := hg.1; omega, hg.2⟩)
        clear ho3 hg3 hin
        go_wp2
        refine bodyPost_ret (v := .tuple #[.int .i64 g1, .bool true]) (by unfold results; rw [Try.results94]; go_simp) rfl ⟨rfl, ⟨⟨_, tset_eq HK.out.1, ?_⟩, tset_fz HK.out.2⟩, HIN.out.imp fun g hg => ⟨hg.1, _, _, _, tset_eq HK.out.1, hg.2⟩, (Xl.of (Ext.trans _ _ _ HX.out HX5.out)).set (by simp)⟩
        have h9 := own_set HO3.out (by have := HM3.out.2; omega) (rb := rb) (o := 0) (u := .slice a3 M3.length c3) HRB.out
        have e9 : L.take c ++ (k, v, s) :: L.drop ((c + 1)) = M3 := by rw [← HM3.out.1, ← HMM.out.1, List.append_assoc]; rfl
        have h10 : RowsSl (W5.setCell ⟨rb, 0, none⟩ (.slice a3 M3.length c3)) (.slice a3 M3.length c3) (L.take c ++ (k, v, s) :: L.drop ((c + 1))) := by rw [e9]; exact h9
        exact h10
      case neg =>
        obtain ⟨v3, W5, hrun3, ho3, hg3⟩ := appendR_all HO2.out (HS3.out (c + 1) (by clear e1; omega)) (by rw [List.length_drop]; have := HL.out; have := HMM.out.2; omega) (by have := HX4.out.below.size; omega)
        have HX5 := hid_mk (ext_grown HX4.out hg3 HO2.out (Nat.le_refl _))
        have HO3 := hid_mk ho3
        have hm3l : (M2 ++ L.drop ((c + 1))).length ≤ 3000000000001 := by rw [List.length_append, List.length_drop]; have := HL.out; have := HMM.out.2; omega
        obtain ⟨M3, hM3⟩ : ∃ M, M2 ++ L.drop ((c + 1)) = M := ⟨_, rfl⟩
        rw [hM3] at ho3 HO3 hm3l
        have HM3 := hid_mk (And.intro hM3 hm3l)
        clear hM3 hm3l
        have k1 := cell_ext HX5.out h1
        have k2 : W5.frozen? ⟨rb, 0, none⟩ = false := (Xt.of HX5.out : Xt none _ _).fz h1 (by simp) h3
        have HK := hid_mk (And.intro k1 k2)
        have kl := cell_lt k1
        have HRB := hid_mk hrl
        obtain ⟨a3, c3, rfl⟩ := own_form ho3
        have hin := ownR_in ho3 (by rw [← HM3.out.1, List.length_append]; have := HMP.out; omega)
        have HIN := hid_mk (show ∃ g, w.heap.size ≤ g ∧ (0 < M3.length → ∃ o, a3 = some ⟨g, o, none⟩) from hin.imp fun g hg => ⟨by have := HX.out.below.size; have := hg.1; omega, hg.2⟩)
        clear ho3 hg3 hin
        go_wp2
        refine bodyPost_ret (v := .tuple #[.int .i64 g1, .bool true]) (by unfold results; rw [Try.results94]; go_simp) rfl ⟨rfl, ⟨⟨_, tset_eq HK.out.1, ?_⟩, tset_fz HK.out.2⟩, HIN.out.imp fun g hg => ⟨hg.1, _, _, _, tset_eq HK.out.1, hg.2⟩, (Xl.of (Ext.trans _ _ _ HX.out HX5.out)).set (by simp)⟩
        have h9 := own_set HO3.out (by have := HM3.out.2; omega) (rb := rb) (o := 0) (u := .slice a3 M3.length c3) HRB.out
        have e9 : L.take c ++ (k, v, s) :: L.drop ((c + 1)) = M3 := by rw [← HM3.out.1, ← HMM.out.1, List.append_assoc]; rfl
        have h10 : RowsSl (W5.setCell ⟨rb, 0, none⟩ (.slice a3 M3.length c3)) (.slice a3 M3.length c3) (L.take c ++ (k, v, s) :: L.drop ((c + 1))) := by rw [e9]; exact h9
        exact h10
end Go.Proofs.Ytgglbohcnlcagaa
