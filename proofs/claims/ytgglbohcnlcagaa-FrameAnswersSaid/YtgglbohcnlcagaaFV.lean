/- FrameTells: Closing, Entries, Same and Clone, of any frames; a clone has its own memory. -/
import Derived.Test.YtgglbohcnlcagaaFT
import Derived.Test.YtgglbohcnlcagaaFU
import Derived.Test.YtgglbohcnlcagaaFL
import Derived.Test.YtgglbohcnlcagaaFK
import Derived.Test.YtgglbohcnlcagaaFA
namespace Go.Proofs.Ytgglbohcnlcagaa
open Go.RowKit
set_option maxHeartbeats 8000000
set_option maxRecDepth 100000
set_option linter.unusedSimpArgs false
set_option linter.unusedVariables false
theorem en_FrameTells : Enters Try.prog 5 := ⟨_, Try.func5, by kernel_rfl, rfl⟩

theorem fSame_true (f t o li nu tu : Int) (l : List Prt) (sv sv' : Value) (w : World) (hs : PrtSl w sv l) (hs' : PrtSl w sv' l) :
    Calls Try.prog 29 #[.agg #[.int .i64 f, .int .i64 t, .int .i64 o, .int .i64 li, .int .i64 nu, .int .i64 tu, sv], .agg #[.int .i64 f, .int .i64 t, .int .i64 o, .int .i64 li, .int .i64 nu, .int .i64 tu, sv']] w
      fun e w' => e = .returned (.bool true) ∧ Ext w w' :=
  (fSame_any f t o li nu tu f t o li nu tu l l sv sv' w hs hs').mono fun e w' ⟨h1, h2⟩ => ⟨by rw [h1, sameF_eq, sameP_eq rfl], h2⟩
theorem rSame_true (f t o li nu tu : Int) (l : List Prt) (sv sv' : Value) (w : World) (hs : PrtSl w sv l) (hs' : PrtSl w sv' l) :
    Calls Try.prog 30 #[.agg #[.int .i64 f, .int .i64 t, .int .i64 o, .int .i64 li, .int .i64 nu, .int .i64 tu, sv], .agg #[.int .i64 f, .int .i64 t, .int .i64 o, .int .i64 li, .int .i64 nu, .int .i64 tu, sv']] w
      fun e w' => e = .returned (.bool true) ∧ Ext w w' :=
  (rSame_any f t o li nu tu f t o li nu tu l l sv sv' w hs hs').mono fun e w' ⟨h1, h2⟩ => ⟨by rw [h1, sameF_eq, sameP_eq rfl], h2⟩

theorem frameTells_walk (f t o li nu tu f' t' o' li' nu' tu' : Int) (l l' : List Prt) (sv sv' : Value) (w : World) (hs : PrtSl w sv l) (hs' : PrtSl w sv' l') :
    Calls Try.prog 5 #[.agg #[.int .i64 f, .int .i64 t, .int .i64 o, .int .i64 li, .int .i64 nu, .int .i64 tu, sv], .agg #[.int .i64 f', .int .i64 t', .int .i64 o', .int .i64 li', .int .i64 nu', .int .i64 tu', sv']] w
      fun e w' => e = .returned (.bool true) ∧ Ext w w' := by
  have HS := hid_mk hs
  have HS' := hid_mk hs'
  obtain ⟨a, c, rfl, -, -, hcl⟩ := hs
  clear hcl
  obtain ⟨a', c', rfl, -, -, hcl⟩ := hs'
  clear hcl
  go_enter Try.func5, Try.ntmps5
  go_wp2_with fail
  have BF : BoxF ((w.alloc (.cells #[.int .i64 f, .int .i64 t, .int .i64 o, .int .i64 li, .int .i64 nu, .int .i64 tu, .slice a l.length c] 26)).alloc (.cells #[.int .i64 f', .int .i64 t', .int .i64 o', .int .i64 li', .int .i64 nu', .int .i64 tu', .slice a' l'.length c'] 26)) w.heap.size f t o li nu tu (.slice a l.length c) := (BoxF.new w f t o li nu tu _).ext (by (repeat (first | exact Ext.refl _ | apply Ext.drew_left | apply Ext.drew | apply Ext.alloc)))
  have BO : BoxF ((w.alloc (.cells #[.int .i64 f, .int .i64 t, .int .i64 o, .int .i64 li, .int .i64 nu, .int .i64 tu, .slice a l.length c] 26)).alloc (.cells #[.int .i64 f', .int .i64 t', .int .i64 o', .int .i64 li', .int .i64 nu', .int .i64 tu', .slice a' l'.length c'] 26)) (w.heap.size + 1) f' t' o' li' nu' tu' (.slice a' l'.length c') := by
    have h := BoxF.new (w.alloc (.cells #[.int .i64 f, .int .i64 t, .int .i64 o, .int .i64 li, .int .i64 nu, .int .i64 tu, .slice a l.length c] 26)) f' t' o' li' nu' tu' (.slice a' l'.length c')
    rwa [World.size_alloc] at h
  refine (beyond_any f t o li nu tu l _ _ (HS.out.ext (by (repeat (first | exact Ext.refl _ | apply Ext.drew_left | apply Ext.drew | apply Ext.alloc))))).mono ?_
  rintro e w1 ⟨⟨b, rfl, hb⟩, hx1⟩
  have HX1 := hid_mk (show Ext w w1 from Ext.trans _ _ _ (by (repeat (first | exact Ext.refl _ | apply Ext.drew_left | apply Ext.drew | apply Ext.alloc))) hx1)
  have HBF1 := hid_mk (BF.ext hx1)
  have HBO1 := hid_mk (BO.ext hx1)
  have HB1 := hid_mk hb
  clear BF BO hx1 hb
  have HC1 := hid_mk HBO1.out.at
  obtain ⟨o0, o1, o2, o3, o4, o5, o6, -, -, -, -, -, -, -⟩ := HC1.out
  have hol := cell_lt o0
  cases b with
  | true =>
    go_wp2
    go_ret
    exact ⟨rfl, HX1.out⟩
  | false =>
    obtain ⟨hm, hme⟩ := HB1.out rfl
    have HME := hid_mk hme
    clear hme
    go_wp2_with fail
    refine (beyond_any f' t' o' li' nu' tu' l' _ _ (HS'.out.ext HX1.out)).mono ?_
    rintro e w2 ⟨⟨b', rfl, hb'⟩, hx2⟩
    have HX2 := hid_mk (Ext.trans _ _ _ HX1.out hx2)
    have HBF2 := hid_mk (HBF1.out.ext hx2)
    have HBO2 := hid_mk (HBO1.out.ext hx2)
    clear hx2 hb' o0 o1 o2 o3 o4 o5 o6 hol
    have HC2 := hid_mk HBF2.out.at
    obtain ⟨f0, f1, f2, f3, f4, f5, f6, -, -, -, -, -, -, -⟩ := HC2.out
    have hfl := cell_lt f0
    cases b' with
    | true =>
      go_wp2
      go_ret
      exact ⟨rfl, HX2.out⟩
    | false =>
      go_wp2_with fail
      refine (lent_any f t o li nu tu l _ _ (HS.out.ext HX2.out) hm HME.out).mono ?_
      rintro e w3 ⟨S, c3, qs, rfl, hq, hr, hE, hx3⟩
      have hL3 := lentAt_of hq hr (fun q hq => hE q hq)
      have HX3 := hid_mk (show Ext w2 (w3.alloc (.cells #[.int .i64 f, .int .i64 t, .int .i64 o, .int .i64 li, .int .i64 nu, .int .i64 tu, .slice (some ⟨S, 0, none⟩) (l.length + 2) c3] 26)) from hx3.alloc _)
      have HL3 := hid_mk (hL3.ext (show Ext w3 (w3.alloc (.cells #[.int .i64 f, .int .i64 t, .int .i64 o, .int .i64 li, .int .i64 nu, .int .i64 tu, .slice (some ⟨S, 0, none⟩) (l.length + 2) c3] 26)) by (repeat (first | exact Ext.refl _ | apply Ext.drew_left | apply Ext.drew | apply Ext.alloc))))
      have HBG3 := hid_mk (BoxF.new w3 f t o li nu tu (.slice (some ⟨S, 0, none⟩) (l.length + 2) c3))
      have h23 := hx3.below.size
      have hS3 := hL3.base
      have hwl := HBO2.out.lt
      clear hx3 hL3 hE hq hr f0 f1 f2 f3 f4 f5 f6 hfl
      go_wp2_with fail
      refine (used_any w2.heap.size w3.heap.size f t o li nu tu l S c3 _ HL3.out (by simp) hm HME.out).mono ?_
      rintro e w4 ⟨rfl, hL4, hg4⟩
      have hx4 : Ext w2 w4 := Ext.of (HX3.out.below.grown hg4 HX3.out.below.size (fun b hb => by cases hb; omega))
      have hs4 := hg4.size
      rw [World.size_alloc] at hs4
      have BF4 := (HBF2.out.ext HX3.out).grown hg4 (by simp; omega)
      have BO4 := (HBO2.out.ext HX3.out).grown hg4 (by simp; omega)
      have BG4 := HBG3.out.grown hg4 (by simp; omega)
      have BH4 := BoxF.new w4 f t o li nu tu (.slice (some ⟨S, 0, none⟩) l.length c3)
      have hxa : Ext w4 (w4.alloc (.cells #[.int .i64 f, .int .i64 t, .int .i64 o, .int .i64 li, .int .i64 nu, .int .i64 tu, .slice (some ⟨S, 0, none⟩) l.length c3] 26)) := by (repeat (first | exact Ext.refl _ | apply Ext.drew_left | apply Ext.drew | apply Ext.alloc))
      have HX4 := hid_mk (Ext.trans _ _ _ HX2.out (Ext.trans _ _ _ hx4 hxa))
      have HL4 := hid_mk (hL4.ext hxa)
      have HBF4 := hid_mk (BF4.ext hxa)
      have HBO4 := hid_mk (BO4.ext hxa)
      have HBG4 := hid_mk (BG4.ext hxa)
      have HBH4 := hid_mk BH4
      have HSF4 := hid_mk (HS.out.ext HX4.out)
      have HSO4 := hid_mk (HS'.out.ext HX4.out)
      have HSH4 := hid_mk (HL4.out.sl (by omega) (fun p hp => by have := HME.out p hp; omega))
      clear hL4 hg4 hx4 BF4 BO4 BG4 BH4 hxa
      go_wp2_with fail
      refine (fClone_any f t o li nu tu l _ _ HSH4.out (by omega) (fun p hp => by have := HME.out p hp; omega)).mono ?_
      rintro e w5 ⟨svc, rfl, hP5, hx5⟩
      generalize hW4 : (w4.alloc (.cells #[.int .i64 f, .int .i64 t, .int .i64 o, .int .i64 li, .int .i64 nu, .int .i64 tu, .slice (some ⟨S, 0, none⟩) l.length c3] 26)) = W4 at *
      clear hW4
      obtain ⟨ac, cc, rfl, -⟩ := id hP5
      have hxb : Ext w5 (w5.alloc (.cells #[.int .i64 f, .int .i64 t, .int .i64 o, .int .i64 li, .int .i64 nu, .int .i64 tu, .slice ac l.length cc] 26)) := by (repeat (first | exact Ext.refl _ | apply Ext.drew_left | apply Ext.drew | apply Ext.alloc))
      have HX5 := hid_mk (Ext.trans _ _ _ hx5 hxb)
      have HP5 := hid_mk (hP5.ext hxb)
      have BF5 := HBF4.out.ext HX5.out
      have BO5 := HBO4.out.ext HX5.out
      have BG5 := HBG4.out.ext HX5.out
      have BH5 := HBH4.out.ext HX5.out
      have BC5 := BoxF.new w5 f t o li nu tu (.slice ac l.length cc)
      clear hxb hx5 hP5
      go_wp2_with fail
      have hcs := BC5.lt
      generalize hW5 : (w5.alloc (.cells #[.int .i64 f, .int .i64 t, .int .i64 o, .int .i64 li, .int .i64 nu, .int .i64 tu, .slice ac l.length cc] 26)) = W5 at *
      clear hW5
      have HSF := hid_mk (HSF4.out.ext HX5.out)
      have HSO := hid_mk (HSO4.out.ext HX5.out)
      have HSH := hid_mk (HSH4.out.ext HX5.out)
      have HSC := hid_mk HP5.out.sl
      have HBF := hid_mk BF5
      have HBO := hid_mk BO5
      have HBG := hid_mk BG5
      have HBH := hid_mk BH5
      have HBC := hid_mk BC5
      clear BF5 BO5 BG5 BH5 BC5
      obtain ⟨f0, f1, f2, f3, f4, f5, f6, -, -, -, -, -, -, -⟩ := HBF.out.at
      obtain ⟨o0, o1, o2, o3, o4, o5, o6, -, -, -, -, -, -, -⟩ := HBO.out.at
      obtain ⟨h0, h1, h2, h3, h4, h5, h6, -, -, -, -, -, -, -⟩ := HBH.out.at
      obtain ⟨k0, k1, k2, k3, k4, k5, k6, -, -, -, -, -, -, -⟩ := HBC.out.at
      have hfl := cell_lt f0
      have hol := cell_lt o0
      have hhl := cell_lt h0
      have hx5 := Ext.refl W5
      have hc5 := hx5.hc; have hl5 := hx5.hl; have he5 := hx5.hle; have hn5 := hx5.hne; replace hx5 := hid_mk hx5
      refine wp_region_held_below (fun _ => true) (.quiet 0 (.quiet 2 (.alt 1 (.alt 3 (.quiet 4 (.quiet 5 (.quiet 6 (.quiet 8 (.alt 7 (.alt 9 (.quiet 10 (.quiet 11 (.quiet 12 (.quiet 13 (.quiet 14 (.quiet 16 (.quiet 17 (.alt 15 (.alt 18 (.quiet 19 (.quiet 20 (.quiet 21 (.quiet 22 (.quiet 23 (.alt 24 (.quiet 25 (.quiet 26 (.quiet 27 (.quiet 28 (.quiet 29 (.alt 30 (.quiet 31 (.quiet 32 .done)) .stop)))))) .stop)))))) .stop) .stop)))))))) .stop) .stop))))) .stop) .stop))) (by kernel_rfl) (by kernel_rfl) (by intro c a w d v h; cases d <;> exact h) (fun ops HO => ?_)
      refine plan_read _ (hi_of HO rfl) rfl (fun w' hE => by have hcE := (Ext.trans _ _ _ (by (repeat (first | exact hx5.out | apply Ext.drew | apply Ext.alloc))) hE).hc; (first | replace hE := Ext.unD hE | skip); have hcF := hE.hc; clear hE; go_simp; rfl) ?_
      simp only [Act.put, List.setIfInBounds_toArray, List.set_cons_succ, List.set_cons_zero]
      refine plan_read _ (hi_of HO rfl) rfl (fun w' hE => by have hcE := (Ext.trans _ _ _ (by (repeat (first | exact hx5.out | apply Ext.drew | apply Ext.alloc))) hE).hc; (first | replace hE := Ext.unD hE | skip); have hcF := hE.hc; clear hE; go_simp; rfl) ?_
      simp only [Act.put, List.setIfInBounds_toArray, List.set_cons_succ, List.set_cons_zero]
      refine plan_call1 en_fClosing (hi_of HO rfl) rfl rfl (by go_simp; rfl) (by exact (fClosing_any f t o li nu tu l _ _ (HSH.out.ext (by (repeat (first | exact Ext.refl _ | apply Ext.drew_left | apply Ext.drew | apply Ext.alloc)))))) ?_
      rintro e v101 ⟨rfl, hx101⟩
      refine ⟨_, rfl, fun _ => hx101, ?_⟩
      have hy101 := hid_mk (by first | (with_reducible exact Ext.unD hx101) | exact hx101 : Ext _ v101)
      replace hx101 := Ext.trans _ _ _ (by (repeat (first | exact hx5.out | apply Ext.drew | apply Ext.alloc))) hx101
      clear hc5 hl5 he5 hn5
      have hc101 := hx101.hc; have hl101 := hx101.hl; have he101 := hx101.hle; have hn101 := hx101.hne; replace hx101 := hid_mk hx101
      simp only [Act.put, List.setIfInBounds_toArray, List.set_cons_succ, List.set_cons_zero]
      replace HSF := hid_mk (HSF.out.ext hy101.out)
      replace HSO := hid_mk (HSO.out.ext hy101.out)
      replace HSH := hid_mk (HSH.out.ext hy101.out)
      replace HSC := hid_mk (HSC.out.ext hy101.out)
      refine plan_call1 en_rClosing (hi_of HO rfl) rfl rfl (by go_simp; rfl) (by exact (rClosing_any f t o li nu tu l _ _ (HSF.out.ext (by (repeat (first | exact Ext.refl _ | apply Ext.drew_left | apply Ext.drew | apply Ext.alloc)))))) ?_
      rintro e v102 ⟨rfl, hx102⟩
      refine ⟨_, rfl, fun _ => hx102, ?_⟩
      have hy102 := hid_mk (by first | (with_reducible exact Ext.unD hx102) | exact hx102 : Ext _ v102)
      replace hx102 := Ext.trans _ _ _ (by (repeat (first | exact hx101.out | apply Ext.drew | apply Ext.alloc))) hx102
      clear hc101 hl101 he101 hn101
      have hc102 := hx102.hc; have hl102 := hx102.hl; have he102 := hx102.hle; have hn102 := hx102.hne; replace hx102 := hid_mk hx102
      simp only [Act.put, List.setIfInBounds_toArray, List.set_cons_succ, List.set_cons_zero]
      replace HSF := hid_mk (HSF.out.ext hy102.out)
      replace HSO := hid_mk (HSO.out.ext hy102.out)
      replace HSH := hid_mk (HSH.out.ext hy102.out)
      replace HSC := hid_mk (HSC.out.ext hy102.out)
      refine plan_read _ (hi_of HO rfl) rfl (fun w' hE => by have hcE := (Ext.trans _ _ _ (by (repeat (first | exact hx102.out | apply Ext.drew | apply Ext.alloc))) hE).hc; (first | replace hE := Ext.unD hE | skip); have hcF := hE.hc; clear hE; go_simp; rfl) ?_
      simp only [Act.put, List.setIfInBounds_toArray, List.set_cons_succ, List.set_cons_zero]
      refine plan_read _ (hi_of HO rfl) rfl (fun w' hE => by have hcE := (Ext.trans _ _ _ (by (repeat (first | exact hx102.out | apply Ext.drew | apply Ext.alloc))) hE).hc; (first | replace hE := Ext.unD hE | skip); have hcF := hE.hc; clear hE; go_simp; rfl) ?_
      simp only [Act.put, List.setIfInBounds_toArray, List.set_cons_succ, List.set_cons_zero]
      refine plan_read _ (hi_of HO rfl) (by rw [HO.out]; rfl) (fun w' hE => by have hcE := (Ext.trans _ _ _ (by (repeat (first | exact hx102.out | apply Ext.drew | apply Ext.alloc))) hE).hc; (first | replace hE := Ext.unD hE | skip); have hcF := hE.hc; clear hE; go_simp; rfl) ?_
      simp only [Act.put, List.setIfInBounds_toArray, List.set_cons_succ, List.set_cons_zero]
      refine plan_read _ (hi_of HO rfl) (by rw [HO.out]; rfl) (fun w' hE => by have hcE := (Ext.trans _ _ _ (by (repeat (first | exact hx102.out | apply Ext.drew | apply Ext.alloc))) hE).hc; (first | replace hE := Ext.unD hE | skip); have hcF := hE.hc; clear hE; go_simp; rfl) ?_
      simp only [Act.put, List.setIfInBounds_toArray, List.set_cons_succ, List.set_cons_zero]
      refine plan_call1 en_Entries (hi_of HO rfl) (by rw [HO.out]; rfl) rfl (by go_simp; rfl) (by exact (Entries_any f t o li nu tu l _ _ (HSH.out.ext (by (repeat (first | exact Ext.refl _ | apply Ext.drew_left | apply Ext.drew | apply Ext.alloc)))))) ?_
      rintro e v103 ⟨rfl, hx103⟩
      refine ⟨_, rfl, fun _ => hx103, ?_⟩
      have hy103 := hid_mk (by first | (with_reducible exact Ext.unD hx103) | exact hx103 : Ext _ v103)
      replace hx103 := Ext.trans _ _ _ (by (repeat (first | exact hx102.out | apply Ext.drew | apply Ext.alloc))) hx103
      clear hc102 hl102 he102 hn102
      have hc103 := hx103.hc; have hl103 := hx103.hl; have he103 := hx103.hle; have hn103 := hx103.hne; replace hx103 := hid_mk hx103
      simp only [Act.put, List.setIfInBounds_toArray, List.set_cons_succ, List.set_cons_zero]
      replace HSF := hid_mk (HSF.out.ext hy103.out)
      replace HSO := hid_mk (HSO.out.ext hy103.out)
      replace HSH := hid_mk (HSH.out.ext hy103.out)
      replace HSC := hid_mk (HSC.out.ext hy103.out)
      refine plan_call1 en_rEntries (hi_of HO rfl) (by rw [HO.out]; rfl) rfl (by go_simp; rfl) (by exact (rEntries_any f t o li nu tu l _ _ (HSF.out.ext (by (repeat (first | exact Ext.refl _ | apply Ext.drew_left | apply Ext.drew | apply Ext.alloc)))))) ?_
      rintro e v104 ⟨rfl, hx104⟩
      refine ⟨_, rfl, fun _ => hx104, ?_⟩
      have hy104 := hid_mk (by first | (with_reducible exact Ext.unD hx104) | exact hx104 : Ext _ v104)
      replace hx104 := Ext.trans _ _ _ (by (repeat (first | exact hx103.out | apply Ext.drew | apply Ext.alloc))) hx104
      clear hc103 hl103 he103 hn103
      have hc104 := hx104.hc; have hl104 := hx104.hl; have he104 := hx104.hle; have hn104 := hx104.hne; replace hx104 := hid_mk hx104
      simp only [Act.put, List.setIfInBounds_toArray, List.set_cons_succ, List.set_cons_zero]
      replace HSF := hid_mk (HSF.out.ext hy104.out)
      replace HSO := hid_mk (HSO.out.ext hy104.out)
      replace HSH := hid_mk (HSH.out.ext hy104.out)
      replace HSC := hid_mk (HSC.out.ext hy104.out)
      refine plan_read _ (hi_of HO rfl) (by rw [HO.out]; rfl) (fun w' hE => by have hcE := (Ext.trans _ _ _ (by (repeat (first | exact hx104.out | apply Ext.drew | apply Ext.alloc))) hE).hc; (first | replace hE := Ext.unD hE | skip); have hcF := hE.hc; clear hE; go_simp; rfl) ?_
      simp only [Act.put, List.setIfInBounds_toArray, List.set_cons_succ, List.set_cons_zero]
      refine plan_read _ (hi_of HO rfl) rfl (fun w' hE => by have hcE := (Ext.trans _ _ _ (by (repeat (first | exact hx104.out | apply Ext.drew | apply Ext.alloc))) hE).hc; (first | replace hE := Ext.unD hE | skip); have hcF := hE.hc; clear hE; go_simp; rfl) ?_
      simp only [Act.put, List.setIfInBounds_toArray, List.set_cons_succ, List.set_cons_zero]
      refine plan_read _ (hi_of HO rfl) rfl (fun w' hE => by have hcE := (Ext.trans _ _ _ (by (repeat (first | exact hx104.out | apply Ext.drew | apply Ext.alloc))) hE).hc; (first | replace hE := Ext.unD hE | skip); have hcF := hE.hc; clear hE; go_simp; rfl) ?_
      simp only [Act.put, List.setIfInBounds_toArray, List.set_cons_succ, List.set_cons_zero]
      refine plan_read _ (hi_of HO rfl) (by rw [HO.out]; rfl) (fun w' hE => by have hcE := (Ext.trans _ _ _ (by (repeat (first | exact hx104.out | apply Ext.drew | apply Ext.alloc))) hE).hc; (first | replace hE := Ext.unD hE | skip); have hcF := hE.hc; clear hE; go_simp; rfl) ?_
      simp only [Act.put, List.setIfInBounds_toArray, List.set_cons_succ, List.set_cons_zero]
      refine plan_read _ (hi_of HO rfl) (by rw [HO.out]; rfl) (fun w' hE => by have hcE := (Ext.trans _ _ _ (by (repeat (first | exact hx104.out | apply Ext.drew | apply Ext.alloc))) hE).hc; (first | replace hE := Ext.unD hE | skip); have hcF := hE.hc; clear hE; go_simp; rfl) ?_
      simp only [Act.put, List.setIfInBounds_toArray, List.set_cons_succ, List.set_cons_zero]
      refine plan_read _ (hi_of HO rfl) (by rw [HO.out]; rfl) (fun w' hE => by have hcE := (Ext.trans _ _ _ (by (repeat (first | exact hx104.out | apply Ext.drew | apply Ext.alloc))) hE).hc; (first | replace hE := Ext.unD hE | skip); have hcF := hE.hc; clear hE; go_simp; rfl) ?_
      simp only [Act.put, List.setIfInBounds_toArray, List.set_cons_succ, List.set_cons_zero]
      refine plan_read _ (hi_of HO rfl) (by rw [HO.out]; rfl) (fun w' hE => by have hcE := (Ext.trans _ _ _ (by (repeat (first | exact hx104.out | apply Ext.drew | apply Ext.alloc))) hE).hc; (first | replace hE := Ext.unD hE | skip); have hcF := hE.hc; clear hE; go_simp; rfl) ?_
      simp only [Act.put, List.setIfInBounds_toArray, List.set_cons_succ, List.set_cons_zero]
      refine plan_call1 en_fSame (hi_of HO rfl) (by rw [HO.out]; rfl) rfl (by go_simp; rfl) (by exact (fSame_any f t o li nu tu f' t' o' li' nu' tu' l l' _ _ _ (HSH.out.ext (by (repeat (first | exact Ext.refl _ | apply Ext.drew_left | apply Ext.drew | apply Ext.alloc)))) (HSO.out.ext (by (repeat (first | exact Ext.refl _ | apply Ext.drew_left | apply Ext.drew | apply Ext.alloc)))))) ?_
      rintro e v105 ⟨rfl, hx105⟩
      refine ⟨_, rfl, fun _ => hx105, ?_⟩
      have hy105 := hid_mk (by first | (with_reducible exact Ext.unD hx105) | exact hx105 : Ext _ v105)
      replace hx105 := Ext.trans _ _ _ (by (repeat (first | exact hx104.out | apply Ext.drew | apply Ext.alloc))) hx105
      clear hc104 hl104 he104 hn104
      have hc105 := hx105.hc; have hl105 := hx105.hl; have he105 := hx105.hle; have hn105 := hx105.hne; replace hx105 := hid_mk hx105
      simp only [Act.put, List.setIfInBounds_toArray, List.set_cons_succ, List.set_cons_zero]
      replace HSF := hid_mk (HSF.out.ext hy105.out)
      replace HSO := hid_mk (HSO.out.ext hy105.out)
      replace HSH := hid_mk (HSH.out.ext hy105.out)
      replace HSC := hid_mk (HSC.out.ext hy105.out)
      refine plan_call1 en_rSame (hi_of HO rfl) (by rw [HO.out]; rfl) rfl (by go_simp; rfl) (by exact (rSame_any f t o li nu tu f' t' o' li' nu' tu' l l' _ _ _ (HSF.out.ext (by (repeat (first | exact Ext.refl _ | apply Ext.drew_left | apply Ext.drew | apply Ext.alloc)))) (HSO.out.ext (by (repeat (first | exact Ext.refl _ | apply Ext.drew_left | apply Ext.drew | apply Ext.alloc)))))) ?_
      rintro e v106 ⟨rfl, hx106⟩
      refine ⟨_, rfl, fun _ => hx106, ?_⟩
      have hy106 := hid_mk (by first | (with_reducible exact Ext.unD hx106) | exact hx106 : Ext _ v106)
      replace hx106 := Ext.trans _ _ _ (by (repeat (first | exact hx105.out | apply Ext.drew | apply Ext.alloc))) hx106
      clear hc105 hl105 he105 hn105
      have hc106 := hx106.hc; have hl106 := hx106.hl; have he106 := hx106.hle; have hn106 := hx106.hne; replace hx106 := hid_mk hx106
      simp only [Act.put, List.setIfInBounds_toArray, List.set_cons_succ, List.set_cons_zero]
      replace HSF := hid_mk (HSF.out.ext hy106.out)
      replace HSO := hid_mk (HSO.out.ext hy106.out)
      replace HSH := hid_mk (HSH.out.ext hy106.out)
      replace HSC := hid_mk (HSC.out.ext hy106.out)
      refine plan_read _ (hi_of HO rfl) (by rw [HO.out]; rfl) (fun w' hE => by have hcE := (Ext.trans _ _ _ (by (repeat (first | exact hx106.out | apply Ext.drew | apply Ext.alloc))) hE).hc; (first | replace hE := Ext.unD hE | skip); have hcF := hE.hc; clear hE; go_simp; rfl) ?_
      simp only [Act.put, List.setIfInBounds_toArray, List.set_cons_succ, List.set_cons_zero]
      refine plan_read _ (hi_of HO rfl) rfl (fun w' hE => by have hcE := (Ext.trans _ _ _ (by (repeat (first | exact hx106.out | apply Ext.drew | apply Ext.alloc))) hE).hc; (first | replace hE := Ext.unD hE | skip); have hcF := hE.hc; clear hE; go_simp; rfl) ?_
      simp only [Act.put, List.setIfInBounds_toArray, List.set_cons_succ, List.set_cons_zero]
      refine plan_read _ (hi_of HO rfl) rfl (fun w' hE => by have hcE := (Ext.trans _ _ _ (by (repeat (first | exact hx106.out | apply Ext.drew | apply Ext.alloc))) hE).hc; (first | replace hE := Ext.unD hE | skip); have hcF := hE.hc; clear hE; go_simp; rfl) ?_
      simp only [Act.put, List.setIfInBounds_toArray, List.set_cons_succ, List.set_cons_zero]
      refine plan_read _ (hi_of HO rfl) (by rw [HO.out]; rfl) (fun w' hE => by have hcE := (Ext.trans _ _ _ (by (repeat (first | exact hx106.out | apply Ext.drew | apply Ext.alloc))) hE).hc; (first | replace hE := Ext.unD hE | skip); have hcF := hE.hc; clear hE; go_simp; rfl) ?_
      simp only [Act.put, List.setIfInBounds_toArray, List.set_cons_succ, List.set_cons_zero]
      refine plan_read _ (hi_of HO rfl) (by rw [HO.out]; rfl) (fun w' hE => by have hcE := (Ext.trans _ _ _ (by (repeat (first | exact hx106.out | apply Ext.drew | apply Ext.alloc))) hE).hc; (first | replace hE := Ext.unD hE | skip); have hcF := hE.hc; clear hE; go_simp; rfl) ?_
      simp only [Act.put, List.setIfInBounds_toArray, List.set_cons_succ, List.set_cons_zero]
      refine plan_call1 en_fSame (hi_of HO rfl) (by rw [HO.out]; rfl) rfl (by go_simp; rfl) (by exact (fSame_true f t o li nu tu l _ _ _ (HSH.out.ext (by (repeat (first | exact Ext.refl _ | apply Ext.drew_left | apply Ext.drew | apply Ext.alloc)))) (HSF.out.ext (by (repeat (first | exact Ext.refl _ | apply Ext.drew_left | apply Ext.drew | apply Ext.alloc)))))) ?_
      rintro e v107 ⟨rfl, hx107⟩
      refine ⟨_, rfl, fun _ => hx107, ?_⟩
      have hy107 := hid_mk (by first | (with_reducible exact Ext.unD hx107) | exact hx107 : Ext _ v107)
      replace hx107 := Ext.trans _ _ _ (by (repeat (first | exact hx106.out | apply Ext.drew | apply Ext.alloc))) hx107
      clear hc106 hl106 he106 hn106
      have hc107 := hx107.hc; have hl107 := hx107.hl; have he107 := hx107.hle; have hn107 := hx107.hne; replace hx107 := hid_mk hx107
      simp only [Act.put, List.setIfInBounds_toArray, List.set_cons_succ, List.set_cons_zero]
      replace HSF := hid_mk (HSF.out.ext hy107.out)
      replace HSO := hid_mk (HSO.out.ext hy107.out)
      replace HSH := hid_mk (HSH.out.ext hy107.out)
      replace HSC := hid_mk (HSC.out.ext hy107.out)
      refine plan_read _ (hi_of HO rfl) (by rw [HO.out]; rfl) (fun w' hE => by have hcE := (Ext.trans _ _ _ (by (repeat (first | exact hx107.out | apply Ext.drew | apply Ext.alloc))) hE).hc; (first | replace hE := Ext.unD hE | skip); have hcF := hE.hc; clear hE; go_simp; rfl) ?_
      simp only [Act.put, List.setIfInBounds_toArray, List.set_cons_succ, List.set_cons_zero]
      refine plan_read _ (hi_of HO rfl) rfl (fun w' hE => by have hcE := (Ext.trans _ _ _ (by (repeat (first | exact hx107.out | apply Ext.drew | apply Ext.alloc))) hE).hc; (first | replace hE := Ext.unD hE | skip); have hcF := hE.hc; clear hE; go_simp; rfl) ?_
      simp only [Act.put, List.setIfInBounds_toArray, List.set_cons_succ, List.set_cons_zero]
      refine plan_read _ (hi_of HO rfl) rfl (fun w' hE => by have hcE := (Ext.trans _ _ _ (by (repeat (first | exact hx107.out | apply Ext.drew | apply Ext.alloc))) hE).hc; (first | replace hE := Ext.unD hE | skip); have hcF := hE.hc; clear hE; go_simp; rfl) ?_
      simp only [Act.put, List.setIfInBounds_toArray, List.set_cons_succ, List.set_cons_zero]
      refine plan_read _ (hi_of HO rfl) (by rw [HO.out]; rfl) (fun w' hE => by have hcE := (Ext.trans _ _ _ (by (repeat (first | exact hx107.out | apply Ext.drew | apply Ext.alloc))) hE).hc; (first | replace hE := Ext.unD hE | skip); have hcF := hE.hc; clear hE; go_simp; rfl) ?_
      simp only [Act.put, List.setIfInBounds_toArray, List.set_cons_succ, List.set_cons_zero]
      refine plan_read _ (hi_of HO rfl) (by rw [HO.out]; rfl) (fun w' hE => by have hcE := (Ext.trans _ _ _ (by (repeat (first | exact hx107.out | apply Ext.drew | apply Ext.alloc))) hE).hc; (first | replace hE := Ext.unD hE | skip); have hcF := hE.hc; clear hE; go_simp; rfl) ?_
      simp only [Act.put, List.setIfInBounds_toArray, List.set_cons_succ, List.set_cons_zero]
      refine plan_call1 en_fSame (hi_of HO rfl) (by rw [HO.out]; rfl) rfl (by go_simp; rfl) (by exact (fSame_true f t o li nu tu l _ _ _ (HSC.out.ext (by (repeat (first | exact Ext.refl _ | apply Ext.drew_left | apply Ext.drew | apply Ext.alloc)))) (HSH.out.ext (by (repeat (first | exact Ext.refl _ | apply Ext.drew_left | apply Ext.drew | apply Ext.alloc)))))) ?_
      rintro e v108 ⟨rfl, hx108⟩
      refine ⟨_, rfl, fun _ => hx108, ?_⟩
      have hy108 := hid_mk (by first | (with_reducible exact Ext.unD hx108) | exact hx108 : Ext _ v108)
      replace hx108 := Ext.trans _ _ _ (by (repeat (first | exact hx107.out | apply Ext.drew | apply Ext.alloc))) hx108
      clear hc107 hl107 he107 hn107
      have hc108 := hx108.hc; have hl108 := hx108.hl; have he108 := hx108.hle; have hn108 := hx108.hne; replace hx108 := hid_mk hx108
      simp only [Act.put, List.setIfInBounds_toArray, List.set_cons_succ, List.set_cons_zero]
      replace HSF := hid_mk (HSF.out.ext hy108.out)
      replace HSO := hid_mk (HSO.out.ext hy108.out)
      replace HSH := hid_mk (HSH.out.ext hy108.out)
      replace HSC := hid_mk (HSC.out.ext hy108.out)
      refine plan_read _ (hi_of HO rfl) (by rw [HO.out]; rfl) (fun w' hE => by have hcE := (Ext.trans _ _ _ (by (repeat (first | exact hx108.out | apply Ext.drew | apply Ext.alloc))) hE).hc; (first | replace hE := Ext.unD hE | skip); have hcF := hE.hc; clear hE; go_simp; rfl) ?_
      simp only [Act.put, List.setIfInBounds_toArray, List.set_cons_succ, List.set_cons_zero]
      refine plan_read _ (hi_of HO rfl) rfl (fun w' hE => by have hcE := (Ext.trans _ _ _ (by (repeat (first | exact hx108.out | apply Ext.drew | apply Ext.alloc))) hE).hc; (first | replace hE := Ext.unD hE | skip); have hcF := hE.hc; clear hE; go_simp; rfl) ?_
      simp only [Act.put, List.setIfInBounds_toArray, List.set_cons_succ, List.set_cons_zero]
      refine plan_done ?fin109
      have HX6 := hid_mk (Ext.trans _ _ _ HX5.out hx108.out)
      clear f0 f1 f2 f3 f4 f5 f6 o0 o1 o2 o3 o4 o5 o6 h0 h1 h2 h3 h4 h5 h6 k0 k1 k2 k3 k4 k5 k6 hfl hol hhl hc108 hl108 he108 hn108
      obtain ⟨f0, f1, f2, f3, f4, f5, f6, -, -, -, -, -, -, -⟩ := (HBF4.out.ext HX6.out).at
      obtain ⟨k0, k1, k2, k3, k4, k5, k6, -, -, -, -, -, -, -⟩ := (HBC.out.ext hx108.out).at
      have hfl := cell_lt f0
      have hkl := cell_lt k0
      go_wp2_with fail
      refine (rSame_true f t o li nu tu l _ _ _ HSC.out HSF.out).mono ?_
      rintro e w7 ⟨rfl, hx7⟩
      have HX7 := hid_mk (Ext.trans _ _ _ HX6.out hx7)
      have HP7 := hid_mk ((HP5.out.ext hx108.out).ext hx7)
      have HBC7 := hid_mk ((HBC.out.ext hx108.out).ext hx7)
      clear f0 f1 f2 f3 f4 f5 f6 k0 k1 k2 k3 k4 k5 k6 hfl hkl hx7
      obtain ⟨f0, f1, f2, f3, f4, f5, f6, -, -, -, -, -, -, -⟩ := (HBF4.out.ext HX7.out).at
      obtain ⟨g0, g1, g2, g3, g4, g5, g6, -, -, -, -, -, -, -⟩ := (HBG4.out.ext HX7.out).at
      have hfl := cell_lt f0
      have hgl := cell_lt g0
      go_wp2_with fail
      refine (still_any w2.heap.size w3.heap.size f t o li nu tu l S c3 _ _ (HL4.out.ext HX7.out) (HSF4.out.ext HX7.out) hm HME.out).mono ?_
      rintro e w8 ⟨rfl, hx8⟩
      have HX8 := hid_mk (Ext.trans _ _ _ HX7.out hx8)
      have HP8 := hid_mk (HP7.out.ext hx8)
      clear f0 f1 f2 f3 f4 f5 f6 g0 g1 g2 g3 g4 g5 g6 hfl hgl
      obtain ⟨k0, k1, k2, k3, k4, k5, k6, -, -, -, -, -, -, -⟩ := (HBC7.out.ext hx8).at
      have hkl := cell_lt k0
      clear hx8
      go_wp2_with fail
      refine (spoil_any W4.heap.size f t o li nu tu l _ _ HP8.out HX8.out.below.size hm HME.out).mono ?_
      rintro e w9 ⟨⟨v, rfl⟩, hb9⟩
      have HX9 := hid_mk (show Ext W4 w9 from Ext.of (HX8.out.below.trans hb9))
      clear k0 k1 k2 k3 k4 k5 k6 hkl hb9
      obtain ⟨f0, f1, f2, f3, f4, f5, f6, -, -, -, -, -, -, -⟩ := (HBF4.out.ext HX9.out).at
      obtain ⟨g0, g1, g2, g3, g4, g5, g6, -, -, -, -, -, -, -⟩ := (HBG4.out.ext HX9.out).at
      have hfl := cell_lt f0
      have hgl := cell_lt g0
      go_wp2_with fail
      refine (still_any w2.heap.size w3.heap.size f t o li nu tu l S c3 _ _ (HL4.out.ext HX9.out) (HSF4.out.ext HX9.out) hm HME.out).mono ?_
      rintro e w10 ⟨rfl, hx10⟩
      have HX10 := hid_mk (Ext.trans _ _ _ HX4.out (Ext.trans _ _ _ HX9.out hx10))
      clear f0 f1 f2 f3 f4 f5 f6 g0 g1 g2 g3 g4 g5 g6 hfl hgl hx10
      go_wp2
      go_ret
      exact ⟨rfl, HX10.out⟩
end Go.Proofs.Ytgglbohcnlcagaa
