/- FrameAnswers: the answer to a frame, and the answer to that; what is handed in is neither changed nor shared. -/
import Derived.Test.YtgglbohcnlcagaaFX
import Derived.Deep.Cut
namespace Go.Proofs.Ytgglbohcnlcagaa
open Go.RowKit
set_option maxHeartbeats 8000000
set_option maxRecDepth 100000
set_option linter.unusedSimpArgs false
set_option linter.unusedVariables false

attribute [local go_sem ↓] neq_name'
theorem PrtOwn.setAll {B : Nat} {w : World} {v : Value} {l : List Prt} (h : PrtOwn B w v l) {G : Nat} {f t o li nu tu : Int} {sv : Value} (hG : BoxF w G f t o li nu tu sv) (f' t' o' li' nu' tu' : Int) (sv' : Value) :
    PrtOwn B (((((((w.setCell ⟨G, 0, none⟩ (.int .i64 f')).setCell ⟨G, 1, none⟩ (.int .i64 t')).setCell ⟨G, 2, none⟩ (.int .i64 o')).setCell ⟨G, 3, none⟩ (.int .i64 li')).setCell ⟨G, 4, none⟩ (.int .i64 nu')).setCell ⟨G, 5, none⟩ (.int .i64 tu')).setCell ⟨G, 6, none⟩ sv') v l := by
  have h0 := heap_setCell_same (j := 0) (u := .int .i64 f') hG
  have h1 := heap_setCell_same (j := 1) (u := .int .i64 t') h0
  have h2 := heap_setCell_same (j := 2) (u := .int .i64 o') h1
  have h3 := heap_setCell_same (j := 3) (u := .int .i64 li') h2
  have h4 := heap_setCell_same (j := 4) (u := .int .i64 nu') h3
  have h5 := heap_setCell_same (j := 5) (u := .int .i64 tu') h4
  exact ((((((h.setG hG).setG h0).setG h1).setG h2).setG h3).setG h4).setG h5
theorem LentAt.setAll {B M : Nat} {w : World} {S c k : Nat} {l : List Prt} (h : LentAt B M w S c k l) {G : Nat} (hG : M ≤ G) (f' t' o' li' nu' tu' : Int) (sv' : Value) : LentAt B M (((((((w.setCell ⟨G, 0, none⟩ (.int .i64 f')).setCell ⟨G, 1, none⟩ (.int .i64 t')).setCell ⟨G, 2, none⟩ (.int .i64 o')).setCell ⟨G, 3, none⟩ (.int .i64 li')).setCell ⟨G, 4, none⟩ (.int .i64 nu')).setCell ⟨G, 5, none⟩ (.int .i64 tu')).setCell ⟨G, 6, none⟩ sv') S c k l :=
  ((((((h.setB hG).setB hG).setB hG).setB hG).setB hG).setB hG).setB hG

theorem notS_setAll {B S1 S2 G : Nat} {w w' : World} (h : NotS B S1 S2 w w') (hG : B ≤ G) (f' t' o' li' nu' tu' : Int) (sv' : Value) : NotS B S1 S2 w (((((((w'.setCell ⟨G, 0, none⟩ (.int .i64 f')).setCell ⟨G, 1, none⟩ (.int .i64 t')).setCell ⟨G, 2, none⟩ (.int .i64 o')).setCell ⟨G, 3, none⟩ (.int .i64 li')).setCell ⟨G, 4, none⟩ (.int .i64 nu')).setCell ⟨G, 5, none⟩ (.int .i64 tu')).setCell ⟨G, 6, none⟩ sv') :=
  notS_set (notS_set (notS_set (notS_set (notS_set (notS_set (notS_set h hG) hG) hG) hG) hG) hG) hG
theorem ext_setAll {G : Nat} {w w' : World} (h : Ext w w') (hG : w.heap.size ≤ G) (f' t' o' li' nu' tu' : Int) (sv' : Value) : Ext w (((((((w'.setCell ⟨G, 0, none⟩ (.int .i64 f')).setCell ⟨G, 1, none⟩ (.int .i64 t')).setCell ⟨G, 2, none⟩ (.int .i64 o')).setCell ⟨G, 3, none⟩ (.int .i64 li')).setCell ⟨G, 4, none⟩ (.int .i64 nu')).setCell ⟨G, 5, none⟩ (.int .i64 tu')).setCell ⟨G, 6, none⟩ sv') :=
  Ext.setD (Ext.setD (Ext.setD (Ext.setD (Ext.setD (Ext.setD (Ext.setD h hG) hG) hG) hG) hG) hG) hG

theorem frameAnswers_walk (f t o li nu tu : Int) (l m q : List Prt) (sv pv mv : Value) (w : World) (hs : PrtSl w sv l) (hp : PrtSl w pv m) (hq : PrtSl w mv q) :
    Calls Try.prog 11 #[.agg #[.int .i64 f, .int .i64 t, .int .i64 o, .int .i64 li, .int .i64 nu, .int .i64 tu, sv], pv, mv] w
      fun e w' => e = .returned (.bool true) ∧ Ext w w' := by
  have HS := hid_mk hs
  have HP := hid_mk hp
  have HQ := hid_mk hq
  obtain ⟨a, c, rfl, -, -, hcl⟩ := hs
  clear hcl
  obtain ⟨pa, pc, rfl, -, -, hcl⟩ := hp
  clear hcl
  obtain ⟨ma, mc, rfl, -, -, hcl⟩ := hq
  clear hcl
  go_enter Try.func11, Try.ntmps11
  go_wp2_with fail
  have BF := BoxF.new w f t o li nu tu (.slice a l.length c)
  refine (beyond_any f t o li nu tu l _ _ (HS.out.ext (by (repeat (first | exact Ext.refl _ | apply Ext.drew_left | apply Ext.drew | apply Ext.alloc))))).mono ?_
  rintro e w1 ⟨⟨b, rfl, hb⟩, hx1⟩
  have HX1 := hid_mk (show Ext w w1 from Ext.trans _ _ _ (by (repeat (first | exact Ext.refl _ | apply Ext.drew_left | apply Ext.drew | apply Ext.alloc))) hx1)
  have HBF1 := hid_mk (BF.ext hx1)
  have HB1 := hid_mk hb
  clear BF hx1 hb
  cases b with
  | true =>
    go_wp2
    go_ret
    exact ⟨rfl, HX1.out⟩
  | false =>
    obtain ⟨hm, hme⟩ := HB1.out rfl
    have HME := hid_mk hme
    clear hme HB1
    go_wp2_with fail
    refine (WeightParts_any m _ _ (HP.out.ext HX1.out)).mono ?_
    rintro e wa ⟨⟨n1, rfl, hn1⟩, hxa⟩
    have HXa := hid_mk (Ext.trans _ _ _ HX1.out hxa)
    have HBFa := hid_mk (HBF1.out.ext hxa)
    have HN1 := hid_mk hn1
    clear hxa hn1
    by_cases hg1 : 536870912 < n1
    · go_wp2
      go_ret
      exact ⟨rfl, HXa.out⟩
    obtain ⟨hm1, hme1⟩ := HN1.out (by omega)
    have HME1 := hid_mk hme1
    clear hme1 HN1 HBF1
    go_wp2_with fail
    refine (WeightParts_any q _ _ (HQ.out.ext HXa.out)).mono ?_
    rintro e w2 ⟨⟨n2, rfl, hn2⟩, hx2⟩
    have HX2 := hid_mk (Ext.trans _ _ _ HXa.out hx2)
    have HBF2 := hid_mk (HBFa.out.ext hx2)
    have HN2 := hid_mk hn2
    clear hx2 hn2
    by_cases hg2 : 536870912 < n2
    · go_wp2
      go_ret
      exact ⟨rfl, HX2.out⟩
    obtain ⟨hm2, hme2⟩ := HN2.out (by omega)
    have HME2 := hid_mk hme2
    clear hme2 HN2 HBFa
    obtain ⟨f0, f1, f2, f3, f4, f5, f6, -, -, -, -, -, -, -⟩ := HBF2.out.at
    have hfl := cell_lt f0
    go_wp2_with fail
    refine (lent_any f t o li nu tu l _ _ (HS.out.ext HX2.out) hm HME.out).mono ?_
    rintro e w3 ⟨S1, c1, qs, rfl, hqq, hr, hE, hx3⟩
    have hL3 := lentAt_of hqq hr (fun q hq => hE q hq)
    have hxb : Ext w3 (w3.alloc (.cells #[.int .i64 f, .int .i64 t, .int .i64 o, .int .i64 li, .int .i64 nu, .int .i64 tu, .slice (some ⟨S1, 0, none⟩) (l.length + 2) c1] 26)) := by (repeat (first | exact Ext.refl _ | apply Ext.drew_left | apply Ext.drew | apply Ext.alloc))
    have HLG := hid_mk (hL3.ext hxb)
    have HBG := hid_mk (BoxF.new w3 f t o li nu tu (.slice (some ⟨S1, 0, none⟩) (l.length + 2) c1))
    have HX3 := hid_mk (Ext.trans _ _ _ hx3 hxb)
    have hS1 := hL3.base
    have h23 := hx3.below.size
    clear hL3 hE hr hqq hx3 hxb f0 f1 f2 f3 f4 f5 f6
    clear qs
    go_wp2_with fail
    refine (lent_any 0 0 0 0 0 0 m _ _ (HP.out.ext (Ext.trans _ _ _ HX2.out HX3.out)) hm1 HME1.out).mono ?_
    rintro e w4 ⟨S2, c2, qs, rfl, hqq, hr, hE, hx4⟩
    have hL4 := lentAt_of hqq hr (fun q hq => hE q hq)
    have hxb : Ext w4 (w4.alloc (.cells #[.int .i64 0, .int .i64 0, .int .i64 0, .int .i64 0, .int .i64 0, .int .i64 0, .slice (some ⟨S2, 0, none⟩) (m.length + 2) c2] 26)) := by (repeat (first | exact Ext.refl _ | apply Ext.drew_left | apply Ext.drew | apply Ext.alloc))
    have HLW := hid_mk (hL4.ext hxb)
    have HBW := hid_mk (BoxF.new w4 0 0 0 0 0 0 (.slice (some ⟨S2, 0, none⟩) (m.length + 2) c2))
    have HXW := hid_mk (Ext.trans _ _ _ hx4 hxb)
    replace HLG := hid_mk (HLG.out.ext HXW.out)
    replace HBG := hid_mk (HBG.out.ext HXW.out)
    have HX4 := hid_mk (Ext.trans _ _ _ HX2.out (Ext.trans _ _ _ HX3.out HXW.out))
    have HBF4 := hid_mk (HBF2.out.ext (Ext.trans _ _ _ HX3.out HXW.out))
    have hS2 := hL4.base
    have h34 := hx4.below.size
    rw [World.size_alloc] at h34 hS2 HLW
    clear hL4 hE hr hqq hx4 hxb HXW HX3
    clear qs
    go_upto_region 5 with fail
    generalize hWR : (w4.alloc (.cells #[.int .i64 0, .int .i64 0, .int .i64 0, .int .i64 0, .int .i64 0, .int .i64 0, .slice (some ⟨S2, 0, none⟩) (m.length + 2) c2] 26)) = WR at *
    have hszR : w4.heap.size + 1 ≤ WR.heap.size := by rw [← hWR]; simp
    clear hWR
    obtain ⟨ER, hERd⟩ : ∃ ER, ER = NotS WR.heap.size S1 S2 := ⟨_, rfl⟩
    have hERr : ∀ x, ER x x := fun x => by rw [hERd]; exact notS_refl _ _ _ _
    have hERt : ∀ x y z, ER x y → ER y z → ER x z := fun x y z h1 h2 => by rw [hERd] at *; exact notS_trans _ _ _ _ _ _ h1 h2
    have hERn : ∀ x y, NotS WR.heap.size S1 S2 x y → ER x y := fun x y h => by rw [hERd]; exact h
    have hERi : ∀ x y, ER x y → NotS WR.heap.size S1 S2 x y := fun x y h => by rw [hERd] at h; exact h
    clear hERd
    go_cut [9, 10] from 18 (fun s9 s10 wx => ∃ (Ga : Nat) (sva : Value), s9 = .pointer (some ⟨Ga, 0, none⟩) ∧ s10 = .int .i64 (ansC ⟨f, t, o, li, nu, tu, l⟩ m) ∧ WR.heap.size ≤ Ga ∧
      BoxF wx Ga (ansF ⟨f, t, o, li, nu, tu, l⟩ m).frm (ansF ⟨f, t, o, li, nu, tu, l⟩ m).to (ansF ⟨f, t, o, li, nu, tu, l⟩ m).opn (ansF ⟨f, t, o, li, nu, tu, l⟩ m).life (ansF ⟨f, t, o, li, nu, tu, l⟩ m).num (ansF ⟨f, t, o, li, nu, tu, l⟩ m).turn sva ∧
      PrtOwn WR.heap.size wx sva (ansF ⟨f, t, o, li, nu, tu, l⟩ m).parts ∧ LentAt w2.heap.size w3.heap.size wx S1 c1 l.length l ∧ LentAt (w3.heap.size + 1) w4.heap.size wx S2 c2 m.length m ∧ NotS WR.heap.size S1 S2 WR wx ∧ Ext w wx)
    case first =>
      have HNS := hid_mk (notS_refl WR.heap.size S1 S2 WR)
      have HXB := HX4
      refine wp_region_held_plan ER (fun _ => true) (.quiet 0 (.quiet 2 (.alt 1 (.alt 3 (.quiet 4 (.alt 5 (.quiet 6 (.quiet 7 (.quiet 8 (.alt 9 (.alt 10 (.quiet 11 .done) .stop) .stop)))) (.alt 9 (.alt 5 (.quiet 6 (.quiet 7 (.quiet 8 (.alt 10 (.quiet 11 .done) .stop)))) .stop) .stop))) (.alt 9 (.alt 3 (.quiet 4 (.alt 5 (.quiet 6 (.quiet 7 (.quiet 8 (.alt 10 (.quiet 11 .done) .stop)))) .stop)) .stop) .stop)) (.alt 9 (.alt 1 (.alt 3 (.quiet 4 (.alt 5 (.quiet 6 (.quiet 7 (.quiet 8 (.alt 10 (.quiet 11 .done) .stop)))) .stop)) .stop) .stop) .stop)))) (by kernel_rfl) (by kernel_rfl) hERr hERt (by intro c a w d v h; cases d <;> exact h) (fun ops HO => ?_)
      refine plan_read _ (hi_of HO rfl) rfl (fun w' hE => by have hA := (BoxF.notS (HBG.out.ext (show Ext WR WR.drew by (repeat (first | exact Ext.refl _ | apply Ext.drew_left | apply Ext.drew | apply Ext.alloc)))) (hERi _ _ hE) (by omega) (by omega) (by omega)).at; obtain ⟨g0, g1, g2, g3, g4, g5, g6, -, -, -, -, -, -, -⟩ := hA; clear hE; go_simp; rfl) ?_
      simp only [Act.put, List.setIfInBounds_toArray, List.set_cons_succ, List.set_cons_zero]
      refine plan_read _ (hi_of HO rfl) rfl (fun w' hE => by have hA := (BoxF.notS (HBW.out.ext (show Ext WR WR.drew by (repeat (first | exact Ext.refl _ | apply Ext.drew_left | apply Ext.drew | apply Ext.alloc)))) (hERi _ _ hE) (by omega) (by omega) (by omega)).at; obtain ⟨g0, g1, g2, g3, g4, g5, g6, -, -, -, -, -, -, -⟩ := hA; clear hE; go_simp; rfl) ?_
      simp only [Act.put, List.setIfInBounds_toArray, List.set_cons_succ, List.set_cons_zero]
      refine plan_fork ?lA101 ?lB101
      case' lA101 =>
        refine plan_call1 en_used (hi_of HO rfl) rfl rfl (by go_simp; rfl) (by exact (used_any w2.heap.size w3.heap.size f t o li nu tu l S1 c1 _ (HLG.out.ext (by (repeat (first | exact Ext.refl _ | apply Ext.drew_left | apply Ext.drew | apply Ext.alloc)))) (by first | omega | (simp; omega)) hm HME.out)) ?_
        rintro e wu1 ⟨rfl, hL, hg⟩
        refine ⟨_, rfl, fun _ => hERn _ _ (notS_grown hg (Or.inl rfl)), ?_⟩
        (first | replace hg := grown_unD hg | skip)
        have hgs := hg.size
        replace HLW := hid_mk (HLW.out.grownN hg (Or.inl (by omega)))
        replace HLG := hid_mk hL
        replace HXB := hid_mk (show Ext w wu1 from Ext.of (HXB.out.below.grown hg HXB.out.below.size (fun b hb => by cases hb; omega)))
        replace HNS := hid_mk (notS_trans _ _ _ _ _ _ HNS.out (notS_grown hg (Or.inl rfl)))
        (try replace HBA := hid_mk (HBA.out.grown hg (by simp; omega)))
        simp only [Act.put, List.setIfInBounds_toArray, List.set_cons_succ, List.set_cons_zero]
        refine plan_fork ?lA102 ?lB102
        case' lA102 =>
          refine plan_call1 en_used (hi_of HO rfl) rfl rfl (by go_simp; rfl) (by exact (used_any (w3.heap.size + 1) w4.heap.size 0 0 0 0 0 0 m S2 c2 _ (HLW.out.ext (by (repeat (first | exact Ext.refl _ | apply Ext.drew_left | apply Ext.drew | apply Ext.alloc)))) (by first | omega | (simp; omega)) hm1 HME1.out)) ?_
          rintro e wu2 ⟨rfl, hL, hg⟩
          refine ⟨_, rfl, fun _ => hERn _ _ (notS_grown hg (Or.inr rfl)), ?_⟩
          (first | replace hg := grown_unD hg | skip)
          have hgs := hg.size
          replace HLG := hid_mk (HLG.out.grownN hg (Or.inr (by omega)))
          replace HLW := hid_mk hL
          replace HXB := hid_mk (show Ext w wu2 from Ext.of (HXB.out.below.grown hg HXB.out.below.size (fun b hb => by cases hb; omega)))
          replace HNS := hid_mk (notS_trans _ _ _ _ _ _ HNS.out (notS_grown hg (Or.inr rfl)))
          (try replace HBA := hid_mk (HBA.out.grown hg (by simp; omega)))
          simp only [Act.put, List.setIfInBounds_toArray, List.set_cons_succ, List.set_cons_zero]
          refine plan_read _ (hi_of HO rfl) rfl (fun w' hE => by clear hE; go_simp; rfl) ?_
          simp only [Act.put, List.setIfInBounds_toArray, List.set_cons_succ, List.set_cons_zero]
          refine plan_fork ?lA103 ?lB103
          case' lA103 =>
            refine plan_call1 en_fAnswer (hi_of HO rfl) rfl rfl (by go_simp; rfl) (by exact (fAns_any ⟨f, t, o, li, nu, tu, l⟩ m _ _ _ ((HLG.out.sl (by omega) (fun p hp => by have := HME.out p hp; omega)).ext (by (repeat (first | exact Ext.refl _ | apply Ext.drew_left | apply Ext.drew | apply Ext.alloc)))) ((HLW.out.sl (by omega) (fun p hp => by have := HME1.out p hp; omega)).ext (by (repeat (first | exact Ext.refl _ | apply Ext.drew_left | apply Ext.drew | apply Ext.alloc)))))) ?_
            rintro e wu3 ⟨sva, rfl, hPA, hx⟩
            obtain ⟨aa, ca, rfl, -⟩ := id hPA
            refine ⟨_, rfl, fun _ => hERn _ _ (notS_ext hx), ?_⟩
            have hgs := hx.below.size
            have HPA := hid_mk (hPA.mono (B' := WR.heap.size) (by omega))
            replace HLG := hid_mk (HLG.out.ext hx)
            replace HLW := hid_mk (HLW.out.ext hx)
            replace HXB := hid_mk (Ext.trans _ _ _ HXB.out hx)
            replace HNS := hid_mk (notS_trans _ _ _ _ _ _ HNS.out (notS_ext hx))
            (try replace HBA := hid_mk (HBA.out.ext hx))
            clear hPA hx
            simp only [Act.put, List.setIfInBounds_toArray, List.set_cons_succ, List.set_cons_zero]
            refine plan_read _ (hi_of HO rfl) rfl (fun w' hE => by clear hE; go_simp; rfl) ?_
            simp only [Act.put, List.setIfInBounds_toArray, List.set_cons_succ, List.set_cons_zero]
            refine plan_read _ (hi_of HO rfl) rfl (fun w' hE => by clear hE; go_simp; rfl) ?_
            simp only [Act.put, List.setIfInBounds_toArray, List.set_cons_succ, List.set_cons_zero]
            refine plan_read _ (hi_of HO rfl) rfl (fun w' hE => by clear hE; go_simp; rfl) ?_
            simp only [Act.put, List.setIfInBounds_toArray, List.set_cons_succ, List.set_cons_zero]
            refine plan_loud1 (hi_of HO rfl) rfl ?_
            go_simp
            first | (have hBX := BoxF.new wu3 0 0 0 0 0 0 (.slice none 0 0); have hXX : Ext wu3 (wu3.alloc (.cells #[.int .i64 0, .int .i64 0, .int .i64 0, .int .i64 0, .int .i64 0, .int .i64 0, .slice none 0 0] 26)) := (by (repeat (first | exact Ext.refl _ | apply Ext.drew_left | apply Ext.drew | apply Ext.alloc))); generalize (wu3.alloc (.cells #[.int .i64 0, .int .i64 0, .int .i64 0, .int .i64 0, .int .i64 0, .int .i64 0, .slice none 0 0] 26)) = wn at hBX hXX ⊢) | (have hBX := BoxF.new wu2 0 0 0 0 0 0 (.slice none 0 0); have hXX : Ext wu2 (wu2.alloc (.cells #[.int .i64 0, .int .i64 0, .int .i64 0, .int .i64 0, .int .i64 0, .int .i64 0, .slice none 0 0] 26)) := (by (repeat (first | exact Ext.refl _ | apply Ext.drew_left | apply Ext.drew | apply Ext.alloc))); generalize (wu2.alloc (.cells #[.int .i64 0, .int .i64 0, .int .i64 0, .int .i64 0, .int .i64 0, .int .i64 0, .slice none 0 0] 26)) = wn at hBX hXX ⊢) | (have hBX := BoxF.new wu1 0 0 0 0 0 0 (.slice none 0 0); have hXX : Ext wu1 (wu1.alloc (.cells #[.int .i64 0, .int .i64 0, .int .i64 0, .int .i64 0, .int .i64 0, .int .i64 0, .slice none 0 0] 26)) := (by (repeat (first | exact Ext.refl _ | apply Ext.drew_left | apply Ext.drew | apply Ext.alloc))); generalize (wu1.alloc (.cells #[.int .i64 0, .int .i64 0, .int .i64 0, .int .i64 0, .int .i64 0, .int .i64 0, .slice none 0 0] 26)) = wn at hBX hXX ⊢) | (have hBX := (BoxF.new WR 0 0 0 0 0 0 (.slice none 0 0)).ext (show Ext (WR.alloc (.cells #[.int .i64 0, .int .i64 0, .int .i64 0, .int .i64 0, .int .i64 0, .int .i64 0, .slice none 0 0] 26)) (WR.alloc (.cells #[.int .i64 0, .int .i64 0, .int .i64 0, .int .i64 0, .int .i64 0, .int .i64 0, .slice none 0 0] 26)).drew from (by (repeat (first | exact Ext.refl _ | apply Ext.drew_left | apply Ext.drew | apply Ext.alloc)))); have hXX : Ext WR (WR.alloc (.cells #[.int .i64 0, .int .i64 0, .int .i64 0, .int .i64 0, .int .i64 0, .int .i64 0, .slice none 0 0] 26)).drew := (by (repeat (first | exact Ext.refl _ | apply Ext.drew_left | apply Ext.drew | apply Ext.alloc))); generalize (WR.alloc (.cells #[.int .i64 0, .int .i64 0, .int .i64 0, .int .i64 0, .int .i64 0, .int .i64 0, .slice none 0 0] 26)).drew = wn at hBX hXX ⊢)
            refine ⟨hERn _ _ (notS_ext (by first | exact hXX | exact Ext.drew_left hXX)), ?_⟩
            have hgs := hXX.below.size
            have HBA := hid_mk hBX
            have hGa := hBX.lt
            replace HLG := hid_mk (HLG.out.ext hXX)
            replace HLW := hid_mk (HLW.out.ext hXX)
            replace HXB := hid_mk (Ext.trans _ _ _ HXB.out hXX)
            replace HNS := hid_mk (notS_trans _ _ _ _ _ _ HNS.out (notS_ext hXX))
            (try replace HPA := hid_mk (HPA.out.ext hXX))
            clear hXX hBX
            obtain ⟨a0, a1, a2, a3, a4, a5, a6, z0, z1, z2, z3, z4, z5, z6⟩ := HBA.out.at
            have hgal := cell_lt a0
            refine plan_loud1 (hi_of HO rfl) rfl ?_
            go_simp
            refine ⟨hERn _ _ (notS_setAll (notS_refl _ _ _ _) (by omega) _ _ _ _ _ _ _), ?_⟩
            refine plan_read _ (hi_of HO rfl) rfl (fun w' hE => by clear hE; go_simp; rfl) ?_
            simp only [Act.put, List.setIfInBounds_toArray, List.set_cons_succ, List.set_cons_zero]
            refine plan_done ?fin104
          case' lB103 =>
            refine plan_loud1 (hi_of HO rfl) rfl ?_
            go_simp
            first | (have hBX := BoxF.new wu3 0 0 0 0 0 0 (.slice none 0 0); have hXX : Ext wu3 (wu3.alloc (.cells #[.int .i64 0, .int .i64 0, .int .i64 0, .int .i64 0, .int .i64 0, .int .i64 0, .slice none 0 0] 26)) := (by (repeat (first | exact Ext.refl _ | apply Ext.drew_left | apply Ext.drew | apply Ext.alloc))); generalize (wu3.alloc (.cells #[.int .i64 0, .int .i64 0, .int .i64 0, .int .i64 0, .int .i64 0, .int .i64 0, .slice none 0 0] 26)) = wn at hBX hXX ⊢) | (have hBX := BoxF.new wu2 0 0 0 0 0 0 (.slice none 0 0); have hXX : Ext wu2 (wu2.alloc (.cells #[.int .i64 0, .int .i64 0, .int .i64 0, .int .i64 0, .int .i64 0, .int .i64 0, .slice none 0 0] 26)) := (by (repeat (first | exact Ext.refl _ | apply Ext.drew_left | apply Ext.drew | apply Ext.alloc))); generalize (wu2.alloc (.cells #[.int .i64 0, .int .i64 0, .int .i64 0, .int .i64 0, .int .i64 0, .int .i64 0, .slice none 0 0] 26)) = wn at hBX hXX ⊢) | (have hBX := BoxF.new wu1 0 0 0 0 0 0 (.slice none 0 0); have hXX : Ext wu1 (wu1.alloc (.cells #[.int .i64 0, .int .i64 0, .int .i64 0, .int .i64 0, .int .i64 0, .int .i64 0, .slice none 0 0] 26)) := (by (repeat (first | exact Ext.refl _ | apply Ext.drew_left | apply Ext.drew | apply Ext.alloc))); generalize (wu1.alloc (.cells #[.int .i64 0, .int .i64 0, .int .i64 0, .int .i64 0, .int .i64 0, .int .i64 0, .slice none 0 0] 26)) = wn at hBX hXX ⊢) | (have hBX := (BoxF.new WR 0 0 0 0 0 0 (.slice none 0 0)).ext (show Ext (WR.alloc (.cells #[.int .i64 0, .int .i64 0, .int .i64 0, .int .i64 0, .int .i64 0, .int .i64 0, .slice none 0 0] 26)) (WR.alloc (.cells #[.int .i64 0, .int .i64 0, .int .i64 0, .int .i64 0, .int .i64 0, .int .i64 0, .slice none 0 0] 26)).drew from (by (repeat (first | exact Ext.refl _ | apply Ext.drew_left | apply Ext.drew | apply Ext.alloc)))); have hXX : Ext WR (WR.alloc (.cells #[.int .i64 0, .int .i64 0, .int .i64 0, .int .i64 0, .int .i64 0, .int .i64 0, .slice none 0 0] 26)).drew := (by (repeat (first | exact Ext.refl _ | apply Ext.drew_left | apply Ext.drew | apply Ext.alloc))); generalize (WR.alloc (.cells #[.int .i64 0, .int .i64 0, .int .i64 0, .int .i64 0, .int .i64 0, .int .i64 0, .slice none 0 0] 26)).drew = wn at hBX hXX ⊢)
            refine ⟨hERn _ _ (notS_ext (by first | exact hXX | exact Ext.drew_left hXX)), ?_⟩
            have hgs := hXX.below.size
            have HBA := hid_mk hBX
            have hGa := hBX.lt
            replace HLG := hid_mk (HLG.out.ext hXX)
            replace HLW := hid_mk (HLW.out.ext hXX)
            replace HXB := hid_mk (Ext.trans _ _ _ HXB.out hXX)
            replace HNS := hid_mk (notS_trans _ _ _ _ _ _ HNS.out (notS_ext hXX))
            (try replace HPA := hid_mk (HPA.out.ext hXX))
            clear hXX hBX
            refine plan_call1 en_fAnswer (hi_of HO rfl) rfl rfl (by go_simp; rfl) (by exact (fAns_any ⟨f, t, o, li, nu, tu, l⟩ m _ _ _ ((HLG.out.sl (by omega) (fun p hp => by have := HME.out p hp; omega)).ext (by (repeat (first | exact Ext.refl _ | apply Ext.drew_left | apply Ext.drew | apply Ext.alloc)))) ((HLW.out.sl (by omega) (fun p hp => by have := HME1.out p hp; omega)).ext (by (repeat (first | exact Ext.refl _ | apply Ext.drew_left | apply Ext.drew | apply Ext.alloc)))))) ?_
            rintro e wu3 ⟨sva, rfl, hPA, hx⟩
            obtain ⟨aa, ca, rfl, -⟩ := id hPA
            refine ⟨_, rfl, fun _ => hERn _ _ (notS_ext hx), ?_⟩
            have hgs := hx.below.size
            have HPA := hid_mk (hPA.mono (B' := WR.heap.size) (by omega))
            replace HLG := hid_mk (HLG.out.ext hx)
            replace HLW := hid_mk (HLW.out.ext hx)
            replace HXB := hid_mk (Ext.trans _ _ _ HXB.out hx)
            replace HNS := hid_mk (notS_trans _ _ _ _ _ _ HNS.out (notS_ext hx))
            (try replace HBA := hid_mk (HBA.out.ext hx))
            clear hPA hx
            simp only [Act.put, List.setIfInBounds_toArray, List.set_cons_succ, List.set_cons_zero]
            refine plan_read _ (hi_of HO rfl) rfl (fun w' hE => by clear hE; go_simp; rfl) ?_
            simp only [Act.put, List.setIfInBounds_toArray, List.set_cons_succ, List.set_cons_zero]
            refine plan_read _ (hi_of HO rfl) rfl (fun w' hE => by clear hE; go_simp; rfl) ?_
            simp only [Act.put, List.setIfInBounds_toArray, List.set_cons_succ, List.set_cons_zero]
            refine plan_read _ (hi_of HO rfl) rfl (fun w' hE => by clear hE; go_simp; rfl) ?_
            simp only [Act.put, List.setIfInBounds_toArray, List.set_cons_succ, List.set_cons_zero]
            obtain ⟨a0, a1, a2, a3, a4, a5, a6, z0, z1, z2, z3, z4, z5, z6⟩ := HBA.out.at
            have hgal := cell_lt a0
            refine plan_loud1 (hi_of HO rfl) rfl ?_
            go_simp
            refine ⟨hERn _ _ (notS_setAll (notS_refl _ _ _ _) (by omega) _ _ _ _ _ _ _), ?_⟩
            refine plan_read _ (hi_of HO rfl) rfl (fun w' hE => by clear hE; go_simp; rfl) ?_
            simp only [Act.put, List.setIfInBounds_toArray, List.set_cons_succ, List.set_cons_zero]
            refine plan_done ?fin105
        case' lB102 =>
          refine plan_loud1 (hi_of HO rfl) rfl ?_
          go_simp
          first | (have hBX := BoxF.new wu3 0 0 0 0 0 0 (.slice none 0 0); have hXX : Ext wu3 (wu3.alloc (.cells #[.int .i64 0, .int .i64 0, .int .i64 0, .int .i64 0, .int .i64 0, .int .i64 0, .slice none 0 0] 26)) := (by (repeat (first | exact Ext.refl _ | apply Ext.drew_left | apply Ext.drew | apply Ext.alloc))); generalize (wu3.alloc (.cells #[.int .i64 0, .int .i64 0, .int .i64 0, .int .i64 0, .int .i64 0, .int .i64 0, .slice none 0 0] 26)) = wn at hBX hXX ⊢) | (have hBX := BoxF.new wu2 0 0 0 0 0 0 (.slice none 0 0); have hXX : Ext wu2 (wu2.alloc (.cells #[.int .i64 0, .int .i64 0, .int .i64 0, .int .i64 0, .int .i64 0, .int .i64 0, .slice none 0 0] 26)) := (by (repeat (first | exact Ext.refl _ | apply Ext.drew_left | apply Ext.drew | apply Ext.alloc))); generalize (wu2.alloc (.cells #[.int .i64 0, .int .i64 0, .int .i64 0, .int .i64 0, .int .i64 0, .int .i64 0, .slice none 0 0] 26)) = wn at hBX hXX ⊢) | (have hBX := BoxF.new wu1 0 0 0 0 0 0 (.slice none 0 0); have hXX : Ext wu1 (wu1.alloc (.cells #[.int .i64 0, .int .i64 0, .int .i64 0, .int .i64 0, .int .i64 0, .int .i64 0, .slice none 0 0] 26)) := (by (repeat (first | exact Ext.refl _ | apply Ext.drew_left | apply Ext.drew | apply Ext.alloc))); generalize (wu1.alloc (.cells #[.int .i64 0, .int .i64 0, .int .i64 0, .int .i64 0, .int .i64 0, .int .i64 0, .slice none 0 0] 26)) = wn at hBX hXX ⊢) | (have hBX := (BoxF.new WR 0 0 0 0 0 0 (.slice none 0 0)).ext (show Ext (WR.alloc (.cells #[.int .i64 0, .int .i64 0, .int .i64 0, .int .i64 0, .int .i64 0, .int .i64 0, .slice none 0 0] 26)) (WR.alloc (.cells #[.int .i64 0, .int .i64 0, .int .i64 0, .int .i64 0, .int .i64 0, .int .i64 0, .slice none 0 0] 26)).drew from (by (repeat (first | exact Ext.refl _ | apply Ext.drew_left | apply Ext.drew | apply Ext.alloc)))); have hXX : Ext WR (WR.alloc (.cells #[.int .i64 0, .int .i64 0, .int .i64 0, .int .i64 0, .int .i64 0, .int .i64 0, .slice none 0 0] 26)).drew := (by (repeat (first | exact Ext.refl _ | apply Ext.drew_left | apply Ext.drew | apply Ext.alloc))); generalize (WR.alloc (.cells #[.int .i64 0, .int .i64 0, .int .i64 0, .int .i64 0, .int .i64 0, .int .i64 0, .slice none 0 0] 26)).drew = wn at hBX hXX ⊢)
          refine ⟨hERn _ _ (notS_ext (by first | exact hXX | exact Ext.drew_left hXX)), ?_⟩
          have hgs := hXX.below.size
          have HBA := hid_mk hBX
          have hGa := hBX.lt
          replace HLG := hid_mk (HLG.out.ext hXX)
          replace HLW := hid_mk (HLW.out.ext hXX)
          replace HXB := hid_mk (Ext.trans _ _ _ HXB.out hXX)
          replace HNS := hid_mk (notS_trans _ _ _ _ _ _ HNS.out (notS_ext hXX))
          (try replace HPA := hid_mk (HPA.out.ext hXX))
          clear hXX hBX
          refine plan_call1 en_used (hi_of HO rfl) rfl rfl (by go_simp; rfl) (by exact (used_any (w3.heap.size + 1) w4.heap.size 0 0 0 0 0 0 m S2 c2 _ (HLW.out.ext (by (repeat (first | exact Ext.refl _ | apply Ext.drew_left | apply Ext.drew | apply Ext.alloc)))) (by first | omega | (simp; omega)) hm1 HME1.out)) ?_
          rintro e wu2 ⟨rfl, hL, hg⟩
          refine ⟨_, rfl, fun _ => hERn _ _ (notS_grown hg (Or.inr rfl)), ?_⟩
          (first | replace hg := grown_unD hg | skip)
          have hgs := hg.size
          replace HLG := hid_mk (HLG.out.grownN hg (Or.inr (by omega)))
          replace HLW := hid_mk hL
          replace HXB := hid_mk (show Ext w wu2 from Ext.of (HXB.out.below.grown hg HXB.out.below.size (fun b hb => by cases hb; omega)))
          replace HNS := hid_mk (notS_trans _ _ _ _ _ _ HNS.out (notS_grown hg (Or.inr rfl)))
          (try replace HBA := hid_mk (HBA.out.grown hg (by simp; omega)))
          simp only [Act.put, List.setIfInBounds_toArray, List.set_cons_succ, List.set_cons_zero]
          refine plan_read _ (hi_of HO rfl) rfl (fun w' hE => by clear hE; go_simp; rfl) ?_
          simp only [Act.put, List.setIfInBounds_toArray, List.set_cons_succ, List.set_cons_zero]
          refine plan_call1 en_fAnswer (hi_of HO rfl) rfl rfl (by go_simp; rfl) (by exact (fAns_any ⟨f, t, o, li, nu, tu, l⟩ m _ _ _ ((HLG.out.sl (by omega) (fun p hp => by have := HME.out p hp; omega)).ext (by (repeat (first | exact Ext.refl _ | apply Ext.drew_left | apply Ext.drew | apply Ext.alloc)))) ((HLW.out.sl (by omega) (fun p hp => by have := HME1.out p hp; omega)).ext (by (repeat (first | exact Ext.refl _ | apply Ext.drew_left | apply Ext.drew | apply Ext.alloc)))))) ?_
          rintro e wu3 ⟨sva, rfl, hPA, hx⟩
          obtain ⟨aa, ca, rfl, -⟩ := id hPA
          refine ⟨_, rfl, fun _ => hERn _ _ (notS_ext hx), ?_⟩
          have hgs := hx.below.size
          have HPA := hid_mk (hPA.mono (B' := WR.heap.size) (by omega))
          replace HLG := hid_mk (HLG.out.ext hx)
          replace HLW := hid_mk (HLW.out.ext hx)
          replace HXB := hid_mk (Ext.trans _ _ _ HXB.out hx)
          replace HNS := hid_mk (notS_trans _ _ _ _ _ _ HNS.out (notS_ext hx))
          (try replace HBA := hid_mk (HBA.out.ext hx))
          clear hPA hx
          simp only [Act.put, List.setIfInBounds_toArray, List.set_cons_succ, List.set_cons_zero]
          refine plan_read _ (hi_of HO rfl) rfl (fun w' hE => by clear hE; go_simp; rfl) ?_
          simp only [Act.put, List.setIfInBounds_toArray, List.set_cons_succ, List.set_cons_zero]
          refine plan_read _ (hi_of HO rfl) rfl (fun w' hE => by clear hE; go_simp; rfl) ?_
          simp only [Act.put, List.setIfInBounds_toArray, List.set_cons_succ, List.set_cons_zero]
          refine plan_read _ (hi_of HO rfl) rfl (fun w' hE => by clear hE; go_simp; rfl) ?_
          simp only [Act.put, List.setIfInBounds_toArray, List.set_cons_succ, List.set_cons_zero]
          obtain ⟨a0, a1, a2, a3, a4, a5, a6, z0, z1, z2, z3, z4, z5, z6⟩ := HBA.out.at
          have hgal := cell_lt a0
          refine plan_loud1 (hi_of HO rfl) rfl ?_
          go_simp
          refine ⟨hERn _ _ (notS_setAll (notS_refl _ _ _ _) (by omega) _ _ _ _ _ _ _), ?_⟩
          refine plan_read _ (hi_of HO rfl) rfl (fun w' hE => by clear hE; go_simp; rfl) ?_
          simp only [Act.put, List.setIfInBounds_toArray, List.set_cons_succ, List.set_cons_zero]
          refine plan_done ?fin106
      case' lB101 =>
        refine plan_loud1 (hi_of HO rfl) rfl ?_
        go_simp
        first | (have hBX := BoxF.new wu3 0 0 0 0 0 0 (.slice none 0 0); have hXX : Ext wu3 (wu3.alloc (.cells #[.int .i64 0, .int .i64 0, .int .i64 0, .int .i64 0, .int .i64 0, .int .i64 0, .slice none 0 0] 26)) := (by (repeat (first | exact Ext.refl _ | apply Ext.drew_left | apply Ext.drew | apply Ext.alloc))); generalize (wu3.alloc (.cells #[.int .i64 0, .int .i64 0, .int .i64 0, .int .i64 0, .int .i64 0, .int .i64 0, .slice none 0 0] 26)) = wn at hBX hXX ⊢) | (have hBX := BoxF.new wu2 0 0 0 0 0 0 (.slice none 0 0); have hXX : Ext wu2 (wu2.alloc (.cells #[.int .i64 0, .int .i64 0, .int .i64 0, .int .i64 0, .int .i64 0, .int .i64 0, .slice none 0 0] 26)) := (by (repeat (first | exact Ext.refl _ | apply Ext.drew_left | apply Ext.drew | apply Ext.alloc))); generalize (wu2.alloc (.cells #[.int .i64 0, .int .i64 0, .int .i64 0, .int .i64 0, .int .i64 0, .int .i64 0, .slice none 0 0] 26)) = wn at hBX hXX ⊢) | (have hBX := BoxF.new wu1 0 0 0 0 0 0 (.slice none 0 0); have hXX : Ext wu1 (wu1.alloc (.cells #[.int .i64 0, .int .i64 0, .int .i64 0, .int .i64 0, .int .i64 0, .int .i64 0, .slice none 0 0] 26)) := (by (repeat (first | exact Ext.refl _ | apply Ext.drew_left | apply Ext.drew | apply Ext.alloc))); generalize (wu1.alloc (.cells #[.int .i64 0, .int .i64 0, .int .i64 0, .int .i64 0, .int .i64 0, .int .i64 0, .slice none 0 0] 26)) = wn at hBX hXX ⊢) | (have hBX := (BoxF.new WR 0 0 0 0 0 0 (.slice none 0 0)).ext (show Ext (WR.alloc (.cells #[.int .i64 0, .int .i64 0, .int .i64 0, .int .i64 0, .int .i64 0, .int .i64 0, .slice none 0 0] 26)) (WR.alloc (.cells #[.int .i64 0, .int .i64 0, .int .i64 0, .int .i64 0, .int .i64 0, .int .i64 0, .slice none 0 0] 26)).drew from (by (repeat (first | exact Ext.refl _ | apply Ext.drew_left | apply Ext.drew | apply Ext.alloc)))); have hXX : Ext WR (WR.alloc (.cells #[.int .i64 0, .int .i64 0, .int .i64 0, .int .i64 0, .int .i64 0, .int .i64 0, .slice none 0 0] 26)).drew := (by (repeat (first | exact Ext.refl _ | apply Ext.drew_left | apply Ext.drew | apply Ext.alloc))); generalize (WR.alloc (.cells #[.int .i64 0, .int .i64 0, .int .i64 0, .int .i64 0, .int .i64 0, .int .i64 0, .slice none 0 0] 26)).drew = wn at hBX hXX ⊢)
        refine ⟨hERn _ _ (notS_ext (by first | exact hXX | exact Ext.drew_left hXX)), ?_⟩
        have hgs := hXX.below.size
        have HBA := hid_mk hBX
        have hGa := hBX.lt
        replace HLG := hid_mk (HLG.out.ext hXX)
        replace HLW := hid_mk (HLW.out.ext hXX)
        replace HXB := hid_mk (Ext.trans _ _ _ HXB.out hXX)
        replace HNS := hid_mk (notS_trans _ _ _ _ _ _ HNS.out (notS_ext hXX))
        (try replace HPA := hid_mk (HPA.out.ext hXX))
        clear hXX hBX
        refine plan_call1 en_used (hi_of HO rfl) rfl rfl (by go_simp; rfl) (by exact (used_any w2.heap.size w3.heap.size f t o li nu tu l S1 c1 _ (HLG.out.ext (by (repeat (first | exact Ext.refl _ | apply Ext.drew_left | apply Ext.drew | apply Ext.alloc)))) (by first | omega | (simp; omega)) hm HME.out)) ?_
        rintro e wu1 ⟨rfl, hL, hg⟩
        refine ⟨_, rfl, fun _ => hERn _ _ (notS_grown hg (Or.inl rfl)), ?_⟩
        (first | replace hg := grown_unD hg | skip)
        have hgs := hg.size
        replace HLW := hid_mk (HLW.out.grownN hg (Or.inl (by omega)))
        replace HLG := hid_mk hL
        replace HXB := hid_mk (show Ext w wu1 from Ext.of (HXB.out.below.grown hg HXB.out.below.size (fun b hb => by cases hb; omega)))
        replace HNS := hid_mk (notS_trans _ _ _ _ _ _ HNS.out (notS_grown hg (Or.inl rfl)))
        (try replace HBA := hid_mk (HBA.out.grown hg (by simp; omega)))
        simp only [Act.put, List.setIfInBounds_toArray, List.set_cons_succ, List.set_cons_zero]
        refine plan_call1 en_used (hi_of HO rfl) rfl rfl (by go_simp; rfl) (by exact (used_any (w3.heap.size + 1) w4.heap.size 0 0 0 0 0 0 m S2 c2 _ (HLW.out.ext (by (repeat (first | exact Ext.refl _ | apply Ext.drew_left | apply Ext.drew | apply Ext.alloc)))) (by first | omega | (simp; omega)) hm1 HME1.out)) ?_
        rintro e wu2 ⟨rfl, hL, hg⟩
        refine ⟨_, rfl, fun _ => hERn _ _ (notS_grown hg (Or.inr rfl)), ?_⟩
        (first | replace hg := grown_unD hg | skip)
        have hgs := hg.size
        replace HLG := hid_mk (HLG.out.grownN hg (Or.inr (by omega)))
        replace HLW := hid_mk hL
        replace HXB := hid_mk (show Ext w wu2 from Ext.of (HXB.out.below.grown hg HXB.out.below.size (fun b hb => by cases hb; omega)))
        replace HNS := hid_mk (notS_trans _ _ _ _ _ _ HNS.out (notS_grown hg (Or.inr rfl)))
        (try replace HBA := hid_mk (HBA.out.grown hg (by simp; omega)))
        simp only [Act.put, List.setIfInBounds_toArray, List.set_cons_succ, List.set_cons_zero]
        refine plan_read _ (hi_of HO rfl) rfl (fun w' hE => by clear hE; go_simp; rfl) ?_
        simp only [Act.put, List.setIfInBounds_toArray, List.set_cons_succ, List.set_cons_zero]
        refine plan_call1 en_fAnswer (hi_of HO rfl) rfl rfl (by go_simp; rfl) (by exact (fAns_any ⟨f, t, o, li, nu, tu, l⟩ m _ _ _ ((HLG.out.sl (by omega) (fun p hp => by have := HME.out p hp; omega)).ext (by (repeat (first | exact Ext.refl _ | apply Ext.drew_left | apply Ext.drew | apply Ext.alloc)))) ((HLW.out.sl (by omega) (fun p hp => by have := HME1.out p hp; omega)).ext (by (repeat (first | exact Ext.refl _ | apply Ext.drew_left | apply Ext.drew | apply Ext.alloc)))))) ?_
        rintro e wu3 ⟨sva, rfl, hPA, hx⟩
        obtain ⟨aa, ca, rfl, -⟩ := id hPA
        refine ⟨_, rfl, fun _ => hERn _ _ (notS_ext hx), ?_⟩
        have hgs := hx.below.size
        have HPA := hid_mk (hPA.mono (B' := WR.heap.size) (by omega))
        replace HLG := hid_mk (HLG.out.ext hx)
        replace HLW := hid_mk (HLW.out.ext hx)
        replace HXB := hid_mk (Ext.trans _ _ _ HXB.out hx)
        replace HNS := hid_mk (notS_trans _ _ _ _ _ _ HNS.out (notS_ext hx))
        (try replace HBA := hid_mk (HBA.out.ext hx))
        clear hPA hx
        simp only [Act.put, List.setIfInBounds_toArray, List.set_cons_succ, List.set_cons_zero]
        refine plan_read _ (hi_of HO rfl) rfl (fun w' hE => by clear hE; go_simp; rfl) ?_
        simp only [Act.put, List.setIfInBounds_toArray, List.set_cons_succ, List.set_cons_zero]
        refine plan_read _ (hi_of HO rfl) rfl (fun w' hE => by clear hE; go_simp; rfl) ?_
        simp only [Act.put, List.setIfInBounds_toArray, List.set_cons_succ, List.set_cons_zero]
        refine plan_read _ (hi_of HO rfl) rfl (fun w' hE => by clear hE; go_simp; rfl) ?_
        simp only [Act.put, List.setIfInBounds_toArray, List.set_cons_succ, List.set_cons_zero]
        obtain ⟨a0, a1, a2, a3, a4, a5, a6, z0, z1, z2, z3, z4, z5, z6⟩ := HBA.out.at
        have hgal := cell_lt a0
        refine plan_loud1 (hi_of HO rfl) rfl ?_
        go_simp
        refine ⟨hERn _ _ (notS_setAll (notS_refl _ _ _ _) (by omega) _ _ _ _ _ _ _), ?_⟩
        refine plan_read _ (hi_of HO rfl) rfl (fun w' hE => by clear hE; go_simp; rfl) ?_
        simp only [Act.put, List.setIfInBounds_toArray, List.set_cons_succ, List.set_cons_zero]
        refine plan_done ?fin107
      all_goals (
        go_wp2_with fail
        go_meet
        case rel =>
          refine ⟨_, _, rfl, rfl, by omega, BoxF.all HBA.out _ _ _ _ _ _ _, HPA.out.setAll HBA.out _ _ _ _ _ _ _, HLG.out.setAll (by omega) _ _ _ _ _ _ _, HLW.out.setAll (by omega) _ _ _ _ _ _ _, notS_setAll HNS.out (by omega) _ _ _ _ _ _ _, ext_setAll HXB.out (by omega) _ _ _ _ _ _ _⟩)
    case rest =>
      clear hERr hERt hERn hERi
      obtain ⟨Ga, sva, rfl, rfl, hGa, hBA, hPA, hLG, hLW, hNS, hX⟩ := hcut
      have hAP := ansF_parts ⟨f, t, o, li, nu, tu, l⟩ m
      have hTW := fun h => ansF_twice (F := ⟨f, t, o, li, nu, tu, l⟩) (m := m) (m' := q) h
      generalize hA1 : ansF ⟨f, t, o, li, nu, tu, l⟩ m = A at *
      generalize hA2 : ansC ⟨f, t, o, li, nu, tu, l⟩ m = ca at *
      have HA := hid_mk (And.intro hA1 hA2)
      have HTW := hid_mk hTW
      have HAL := hid_mk (show A.parts.length ≤ 536870912 ∧ ∀ p ∈ A.parts, p.ents.length ≤ 536870912 from by
        rcases hAP with h | h
        · rw [h]; exact ⟨by simp, by simp⟩
        · rw [h]; exact ⟨hm1, HME1.out⟩)
      clear hA1 hA2 hTW hAP
      obtain ⟨aa, cca, rfl, -⟩ := id hPA
      have hwR : w.heap.size < WR.heap.size := HBF4.out.lt
      have HBF := hid_mk (HBF4.out.notS hNS (by omega) (by omega) (by omega))
      have HBGn := hid_mk (HBG.out.notS hNS (by omega) (by omega) (by omega))
      have HBWn := hid_mk (HBW.out.notS hNS (by omega) (by omega) (by omega))
      have HBA := hid_mk hBA
      have HPA := hid_mk hPA
      have HLGn := hid_mk hLG
      have HLWn := hid_mk hLW
      have HXw := hid_mk hX
      have hsz5 := hNS.1
      clear hBA hPA hLG hLW hNS hX HLG HLW HBG HBW
      -- the document's answer
      obtain ⟨f0, f1, f2, f3, f4, f5, f6, -, -, -, -, -, -, -⟩ := (HBF.out).at
      have fl := cell_lt f0
      go_wp2_with fail
      refine (rAns_any ⟨f, t, o, li, nu, tu, l⟩ m _ _ _ (HS.out.ext HXw.out) (HP.out.ext HXw.out) hm1 HME1.out).mono ?_
      rw [HA.out.1, HA.out.2]
      rintro e w6 ⟨svb, rfl, hPb, hx6⟩
      obtain ⟨ab, ccb, rfl, -⟩ := id hPb
      have hxa : Ext w6 (w6.alloc (.cells #[.int .i64 A.frm, .int .i64 A.to, .int .i64 A.opn, .int .i64 A.life, .int .i64 A.num, .int .i64 A.turn, .slice ab A.parts.length ccb] 26)) := by (repeat (first | exact Ext.refl _ | apply Ext.drew_left | apply Ext.drew | apply Ext.alloc))
      have HX6 := hid_mk (Ext.trans _ _ _ hx6 hxa)
      have HBb := hid_mk (BoxF.new w6 A.frm A.to A.opn A.life A.num A.turn (.slice ab A.parts.length ccb))
      have HPb := hid_mk (hPb.ext hxa)
      clear f0 f1 f2 f3 f4 f5 f6 fl
      clear hx6 hxa hPb
      obtain ⟨a0, a1, a2, a3, a4, a5, a6, -, -, -, -, -, -, -⟩ := (HBA.out.ext HX6.out).at
      have al := cell_lt a0
      obtain ⟨b0, b1, b2, b3, b4, b5, b6, -, -, -, -, -, -, -⟩ := (HBb.out).at
      have bl := cell_lt b0
      go_wp2_with fail
      generalize hW6 : (w6.alloc (.cells #[.int .i64 A.frm, .int .i64 A.to, .int .i64 A.opn, .int .i64 A.life, .int .i64 A.num, .int .i64 A.turn, .slice ab A.parts.length ccb] 26)) = W6 at *
      clear hW6
      refine (rSame_true A.frm A.to A.opn A.life A.num A.turn A.parts _ _ _ (HPA.out.ext HX6.out).sl HPb.out).mono ?_
      rintro e w7 ⟨rfl, hx7⟩
      have HX7 := hid_mk (Ext.trans _ _ _ HX6.out hx7)
      have HXb7 := hid_mk hx7
      clear a0 a1 a2 a3 a4 a5 a6 al b0 b1 b2 b3 b4 b5 b6 bl
      clear hx7
      obtain ⟨g0, g1, g2, g3, g4, g5, g6, -, -, -, -, -, -, -⟩ := (HBGn.out.ext HX7.out).at
      have gl := cell_lt g0
      obtain ⟨f0, f1, f2, f3, f4, f5, f6, -, -, -, -, -, -, -⟩ := (HBF.out.ext HX7.out).at
      have fl := cell_lt f0
      go_wp2_with fail
      refine (still_any w2.heap.size w3.heap.size f t o li nu tu l S1 c1 _ _ (HLGn.out.ext HX7.out) (HS.out.ext (Ext.trans _ _ _ HXw.out HX7.out)) hm HME.out).mono ?_
      rintro e w8 ⟨rfl, hx8⟩
      have HX8 := hid_mk (Ext.trans _ _ _ HX7.out hx8)
      have HXb8 := hid_mk (Ext.trans _ _ _ HXb7.out hx8)
      clear g0 g1 g2 g3 g4 g5 g6 gl f0 f1 f2 f3 f4 f5 f6 fl
      clear hx8
      obtain ⟨g0, g1, g2, g3, g4, g5, g6, -, -, -, -, -, -, -⟩ := (HBWn.out.ext HX8.out).at
      have gl := cell_lt g0
      go_wp2_with fail
      refine (still_any (w3.heap.size + 1) w4.heap.size 0 0 0 0 0 0 m S2 c2 _ _ (HLWn.out.ext HX8.out) (HP.out.ext (Ext.trans _ _ _ HXw.out HX8.out)) hm1 HME1.out).mono ?_
      rintro e w9 ⟨rfl, hx9⟩
      have HX9 := hid_mk (Ext.trans _ _ _ HX8.out hx9)
      have HXb9 := hid_mk (Ext.trans _ _ _ HXb8.out hx9)
      clear g0 g1 g2 g3 g4 g5 g6 gl
      clear hx9
      -- all at the second answer's world
      have DA := hid_mk (HBA.out.ext HX9.out)
      have DB := hid_mk (HBb.out.ext HXb9.out)
      have DG := hid_mk (HBGn.out.ext HX9.out)
      have DW := hid_mk (HBWn.out.ext HX9.out)
      have DF := hid_mk (HBF.out.ext HX9.out)
      have DPA := hid_mk (HPA.out.ext HX9.out)
      have DPB := hid_mk (HPb.out.ext HXb9.out)
      have DLG := hid_mk (HLGn.out.ext HX9.out)
      have DLW := hid_mk (HLWn.out.ext HX9.out)
      have DX := hid_mk (Ext.trans _ _ _ HXw.out HX9.out)
      have hsz9 := HX9.out.below.size
      clear HBA HBb HBGn HBWn HBF HPA HPb HLGn HLWn HXb7 HXb8 HXb9 HX6 HX7 HX8 HX9
      obtain ⟨a0, a1, a2, a3, a4, a5, a6, -, -, -, -, -, -, -⟩ := (DA.out).at
      have al := cell_lt a0
      go_wp2_with fail
      refine (fAns_any A q _ _ _ DPA.out.sl (HQ.out.ext DX.out)).mono ?_
      have hCP := ansF_parts A q
      generalize hC1 : ansF A q = C at *
      generalize hC2 : ansC A q = cc at *
      have HC := hid_mk (And.intro hC1 hC2)
      have HCL := hid_mk (show C.parts.length ≤ 536870912 ∧ ∀ p ∈ C.parts, p.ents.length ≤ 536870912 from by
        rcases hCP with h | h
        · rw [h]; exact ⟨by simp, by simp⟩
        · rw [h]; exact ⟨hm2, HME2.out⟩)
      clear hC1 hC2 hCP
      rintro e w10 ⟨svc, rfl, hPC, hx10⟩
      obtain ⟨ac, ccc, rfl, -⟩ := id hPC
      have hxa : Ext w10 (w10.alloc (.cells #[.int .i64 C.frm, .int .i64 C.to, .int .i64 C.opn, .int .i64 C.life, .int .i64 C.num, .int .i64 C.turn, .slice ac C.parts.length ccc] 26)) := by (repeat (first | exact Ext.refl _ | apply Ext.drew_left | apply Ext.drew | apply Ext.alloc))
      have HX10 := hid_mk (Ext.trans _ _ _ hx10 hxa)
      have CB := hid_mk (BoxF.new w10 C.frm C.to C.opn C.life C.num C.turn (.slice ac C.parts.length ccc))
      have CP := hid_mk (hPC.ext hxa)
      clear a0 a1 a2 a3 a4 a5 a6 al
      clear hx10 hxa hPC
      obtain ⟨b0, b1, b2, b3, b4, b5, b6, -, -, -, -, -, -, -⟩ := (DB.out.ext HX10.out).at
      have bl := cell_lt b0
      go_wp2_with fail
      generalize hW10 : (w10.alloc (.cells #[.int .i64 C.frm, .int .i64 C.to, .int .i64 C.opn, .int .i64 C.life, .int .i64 C.num, .int .i64 C.turn, .slice ac C.parts.length ccc] 26)) = W10 at *
      clear hW10
      refine (rAns_any A q _ _ _ (DPB.out.ext HX10.out) (HQ.out.ext (Ext.trans _ _ _ DX.out HX10.out)) hm2 HME2.out).mono ?_
      rw [HC.out.1, HC.out.2]
      rintro e w11 ⟨svh, rfl, hPH, hx11⟩
      obtain ⟨ah, cch, rfl, -⟩ := id hPH
      have hxa : Ext w11 (w11.alloc (.cells #[.int .i64 C.frm, .int .i64 C.to, .int .i64 C.opn, .int .i64 C.life, .int .i64 C.num, .int .i64 C.turn, .slice ah C.parts.length cch] 26)) := by (repeat (first | exact Ext.refl _ | apply Ext.drew_left | apply Ext.drew | apply Ext.alloc))
      have HXc11 := hid_mk (Ext.trans _ _ _ hx11 hxa)
      have HH := hid_mk (BoxF.new w11 C.frm C.to C.opn C.life C.num C.turn (.slice ah C.parts.length cch))
      have HPH := hid_mk (hPH.ext hxa)
      clear b0 b1 b2 b3 b4 b5 b6 bl
      clear hx11 hxa hPH
      obtain ⟨k0, k1, k2, k3, k4, k5, k6, -, -, -, -, -, -, -⟩ := (CB.out.ext HXc11.out).at
      have kl := cell_lt k0
      obtain ⟨h0, h1, h2, h3, h4, h5, h6, -, -, -, -, -, -, -⟩ := (HH.out).at
      have hl := cell_lt h0
      go_wp2_with fail
      generalize hW11 : (w11.alloc (.cells #[.int .i64 C.frm, .int .i64 C.to, .int .i64 C.opn, .int .i64 C.life, .int .i64 C.num, .int .i64 C.turn, .slice ah C.parts.length cch] 26)) = W11 at *
      clear hW11
      refine (rSame_true C.frm C.to C.opn C.life C.num C.turn C.parts _ _ _ (CP.out.ext HXc11.out).sl HPH.out).mono ?_
      rintro e w12 ⟨rfl, hx12⟩
      have HXc12 := hid_mk (Ext.trans _ _ _ HXc11.out hx12)
      clear k0 k1 k2 k3 k4 k5 k6 kl h0 h1 h2 h3 h4 h5 h6 hl
      clear hx12 HXc11 HH HPH
      have HX12 := hid_mk (Ext.trans _ _ _ HX10.out HXc12.out)
      obtain ⟨k0, k1, k2, k3, k4, k5, k6, -, -, -, -, -, -, -⟩ := (CB.out.ext HXc12.out).at
      have kl := cell_lt k0
      obtain ⟨f0, f1, f2, f3, f4, f5, f6, -, -, -, -, -, -, -⟩ := (DF.out.ext HX12.out).at
      have fl := cell_lt f0
      have HTW2 := hid_mk (show cc = 0 → (C.frm != f) = false ∧ (C.to != t) = false ∧ neName C.opn C.life C.num o li nu = false ∧ (C.turn != tu + 2) = false ∧ IntKind.i64.wrap (tu + 2) = tu + 2 from fun h => by
        have hh := HTW.out h
        obtain ⟨e1, e2, e3, e4, e5, e6, e7, e8⟩ := hh
        exact ⟨by simp [e1], by simp [e2], by simp [neName, e3, e4, e5], by simp [e6]; omega, wrapZ _ (by omega)⟩)
      by_cases hcc : cc = 0
      · obtain ⟨t1, t2, t3, t4, t5⟩ := HTW2.out hcc
        rw [hcc]
        go_wp2_with fail
        refine (spoil_any _ C.frm C.to C.opn C.life C.num C.turn C.parts _ _ (CP.out.ext HXc12.out) HX12.out.below.size HCL.out.1 HCL.out.2).mono ?_
        rintro e w13 ⟨⟨v13, rfl⟩, hb13⟩
        have HX13 := hid_mk (show Ext w9 w13 from Ext.of (HX12.out.below.trans hb13))
        clear k0 k1 k2 k3 k4 k5 k6 kl f0 f1 f2 f3 f4 f5 f6 fl
        clear hb13
        obtain ⟨a0, a1, a2, a3, a4, a5, a6, -, -, -, -, -, -, -⟩ := (DA.out.ext HX13.out).at
        have al := cell_lt a0
        obtain ⟨b0, b1, b2, b3, b4, b5, b6, -, -, -, -, -, -, -⟩ := (DB.out.ext HX13.out).at
        have bl := cell_lt b0
        go_wp2_with fail
        refine (rSame_true A.frm A.to A.opn A.life A.num A.turn A.parts _ _ _ (DPA.out.ext HX13.out).sl (DPB.out.ext HX13.out)).mono ?_
        rintro e w14 ⟨rfl, hx14⟩
        have HX14 := hid_mk (Ext.trans _ _ _ HX13.out hx14)
        clear a0 a1 a2 a3 a4 a5 a6 al b0 b1 b2 b3 b4 b5 b6 bl
        clear hx14
        obtain ⟨a0, a1, a2, a3, a4, a5, a6, -, -, -, -, -, -, -⟩ := (DA.out.ext HX14.out).at
        have al := cell_lt a0
        go_wp2_with fail
        refine (spoil_any WR.heap.size A.frm A.to A.opn A.life A.num A.turn A.parts _ _ (DPA.out.ext HX14.out) (by have := HX14.out.below.size; omega) HAL.out.1 HAL.out.2).mono ?_
        rintro e w15 ⟨⟨v15, rfl⟩, hb15⟩
        have EG := hid_mk ((DG.out.ext HX14.out).below hb15 (by omega))
        have EW := hid_mk ((DW.out.ext HX14.out).below hb15 (by omega))
        have EF := hid_mk ((DF.out.ext HX14.out).below hb15 (by omega))
        have ELG := hid_mk ((DLG.out.ext HX14.out).below hb15 (by omega))
        have ELW := hid_mk ((DLW.out.ext HX14.out).below hb15 (by omega))
        have HX15 := hid_mk (show Ext w w15 from Ext.of ((Ext.trans _ _ _ DX.out HX14.out).below.trans (hb15.mono (by omega))))
        clear a0 a1 a2 a3 a4 a5 a6 al
        clear hb15
        obtain ⟨g0, g1, g2, g3, g4, g5, g6, -, -, -, -, -, -, -⟩ := (EG.out).at
        have gl := cell_lt g0
        obtain ⟨f0, f1, f2, f3, f4, f5, f6, -, -, -, -, -, -, -⟩ := (EF.out).at
        have fl := cell_lt f0
        go_wp2_with fail
        refine (still_any w2.heap.size w3.heap.size f t o li nu tu l S1 c1 _ _ ELG.out (HS.out.ext HX15.out) hm HME.out).mono ?_
        rintro e w16 ⟨rfl, hx16⟩
        have HX16 := hid_mk (Ext.trans _ _ _ HX15.out hx16)
        have ELW16 := hid_mk (ELW.out.ext hx16)
        clear g0 g1 g2 g3 g4 g5 g6 gl f0 f1 f2 f3 f4 f5 f6 fl
        obtain ⟨g0, g1, g2, g3, g4, g5, g6, -, -, -, -, -, -, -⟩ := (EW.out.ext hx16).at
        have gl := cell_lt g0
        clear hx16
        go_wp2_with fail
        refine (still_any (w3.heap.size + 1) w4.heap.size 0 0 0 0 0 0 m S2 c2 _ _ ELW16.out (HP.out.ext HX16.out) hm1 HME1.out).mono ?_
        rintro e w17 ⟨rfl, hx17⟩
        have HX17 := hid_mk (Ext.trans _ _ _ HX16.out hx17)
        clear g0 g1 g2 g3 g4 g5 g6 gl
        clear hx17
        go_wp2
        go_ret
        exact ⟨rfl, HX17.out⟩
      · have hccb : (cc == 0) = false := by simpa using hcc
        go_wp2_with fail
        refine (spoil_any _ C.frm C.to C.opn C.life C.num C.turn C.parts _ _ (CP.out.ext HXc12.out) HX12.out.below.size HCL.out.1 HCL.out.2).mono ?_
        rintro e w13 ⟨⟨v13, rfl⟩, hb13⟩
        have HX13 := hid_mk (show Ext w9 w13 from Ext.of (HX12.out.below.trans hb13))
        clear k0 k1 k2 k3 k4 k5 k6 kl f0 f1 f2 f3 f4 f5 f6 fl
        clear hb13
        obtain ⟨a0, a1, a2, a3, a4, a5, a6, -, -, -, -, -, -, -⟩ := (DA.out.ext HX13.out).at
        have al := cell_lt a0
        obtain ⟨b0, b1, b2, b3, b4, b5, b6, -, -, -, -, -, -, -⟩ := (DB.out.ext HX13.out).at
        have bl := cell_lt b0
        go_wp2_with fail
        refine (rSame_true A.frm A.to A.opn A.life A.num A.turn A.parts _ _ _ (DPA.out.ext HX13.out).sl (DPB.out.ext HX13.out)).mono ?_
        rintro e w14 ⟨rfl, hx14⟩
        have HX14 := hid_mk (Ext.trans _ _ _ HX13.out hx14)
        clear a0 a1 a2 a3 a4 a5 a6 al b0 b1 b2 b3 b4 b5 b6 bl
        clear hx14
        obtain ⟨a0, a1, a2, a3, a4, a5, a6, -, -, -, -, -, -, -⟩ := (DA.out.ext HX14.out).at
        have al := cell_lt a0
        go_wp2_with fail
        refine (spoil_any WR.heap.size A.frm A.to A.opn A.life A.num A.turn A.parts _ _ (DPA.out.ext HX14.out) (by have := HX14.out.below.size; omega) HAL.out.1 HAL.out.2).mono ?_
        rintro e w15 ⟨⟨v15, rfl⟩, hb15⟩
        have EG := hid_mk ((DG.out.ext HX14.out).below hb15 (by omega))
        have EW := hid_mk ((DW.out.ext HX14.out).below hb15 (by omega))
        have EF := hid_mk ((DF.out.ext HX14.out).below hb15 (by omega))
        have ELG := hid_mk ((DLG.out.ext HX14.out).below hb15 (by omega))
        have ELW := hid_mk ((DLW.out.ext HX14.out).below hb15 (by omega))
        have HX15 := hid_mk (show Ext w w15 from Ext.of ((Ext.trans _ _ _ DX.out HX14.out).below.trans (hb15.mono (by omega))))
        clear a0 a1 a2 a3 a4 a5 a6 al
        clear hb15
        obtain ⟨g0, g1, g2, g3, g4, g5, g6, -, -, -, -, -, -, -⟩ := (EG.out).at
        have gl := cell_lt g0
        obtain ⟨f0, f1, f2, f3, f4, f5, f6, -, -, -, -, -, -, -⟩ := (EF.out).at
        have fl := cell_lt f0
        go_wp2_with fail
        refine (still_any w2.heap.size w3.heap.size f t o li nu tu l S1 c1 _ _ ELG.out (HS.out.ext HX15.out) hm HME.out).mono ?_
        rintro e w16 ⟨rfl, hx16⟩
        have HX16 := hid_mk (Ext.trans _ _ _ HX15.out hx16)
        have ELW16 := hid_mk (ELW.out.ext hx16)
        clear g0 g1 g2 g3 g4 g5 g6 gl f0 f1 f2 f3 f4 f5 f6 fl
        obtain ⟨g0, g1, g2, g3, g4, g5, g6, -, -, -, -, -, -, -⟩ := (EW.out.ext hx16).at
        have gl := cell_lt g0
        clear hx16
        go_wp2_with fail
        refine (still_any (w3.heap.size + 1) w4.heap.size 0 0 0 0 0 0 m S2 c2 _ _ ELW16.out (HP.out.ext HX16.out) hm1 HME1.out).mono ?_
        rintro e w17 ⟨rfl, hx17⟩
        have HX17 := hid_mk (Ext.trans _ _ _ HX16.out hx17)
        clear g0 g1 g2 g3 g4 g5 g6 gl
        clear hx17
        go_wp2
        go_ret
        exact ⟨rfl, HX17.out⟩
end Go.Proofs.Ytgglbohcnlcagaa
