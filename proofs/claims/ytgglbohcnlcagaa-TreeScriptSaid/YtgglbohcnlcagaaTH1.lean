/- What a tree in memory answers to Fold. (One of three instances.) -/
import Derived.Test.YtgglbohcnlcagaaTG1
import Derived.Test.YtgglbohcnlcagaaTS
namespace Go.Proofs.Ytgglbohcnlcagaa
open Go.RowKit
set_option maxHeartbeats 2000000
set_option maxRecDepth 100000
set_option linter.unusedSimpArgs false
set_option linter.unusedVariables false
theorem en_TFold1 : Enters Try.prog 38 := ⟨_, Try.func38, by kernel_rfl, rfl⟩
attribute [-go_sem] Builtin.append_

theorem Ext.setT1 {w w' : World} (h : Ext w w') {b o : Nat} {u : Value} (hp : w.heap.size ≤ b) : Ext w (w'.setCell ⟨b, o, none⟩ u) := Ext.of (Below.setCell h.below hp u)
/-- The summaries of a row lie behind one another. -/
def RowC1 (w : World) (g : Nat) (P : List S1) : Prop := ∀ k, (h : k < P.length) → w.cell? ⟨g, k * 2, none⟩ = some (.int .u64 P[k].1) ∧ w.cell? ⟨g, k * 2 + 1, none⟩ = some (.int .u64 P[k].2)
theorem RowC1.xt {Sp : Option Nat} {w w' : World} {g : Nat} {P : List S1} (h : RowC1 w g P) (hx : Xt Sp w w') (hn : Sp ≠ some g) : RowC1 w' g P := fun k hk => ⟨hx.rd (h k hk).1 hn, hx.rd (h k hk).2 hn⟩
theorem own1_rowc {w : World} {B : Nat} {v : Value} {P : List S1} (h : OwnS1 w B v P) (hp : 0 < P.length) : ∃ g c, v = .slice (some ⟨g, 0, none⟩) P.length c ∧ B ≤ g ∧ RowC1 w g P := by
  obtain ⟨g, c, hv, hc⟩ := own_cell h hp
  refine ⟨g, c, hv, ?_, fun k hk => ?_⟩
  · rcases h.2 with ⟨h1, -⟩ | ⟨g', cap, cur, h1, h2, -⟩
    · rw [hv] at h1; cases h1
    · rw [hv] at h1; cases h1; exact h2
  · have k0 : ∀ r, r < 2 → ∀ u, (cS1 P[k])[r]? = some u → w.cell? ⟨g, k * 2 + r, none⟩ = some u := fun r hr u hu => hc _ _ ((flat_get cS1 2 (by omega) cS1_len P k hk r hr).trans hu)
    exact ⟨k0 0 (by omega) _ rfl, k0 1 (by omega) _ rfl⟩
/-- What a fold hands back. -/
def Folded1 (Sp : Option Nat) (K : Nat → World → Prop) (n : Nat) (J : S1 → S1 → S1) (zz : S1) (P : List S1) (w : World) (e : Ending) (w' : World) : Prop :=
  e = .returned (encS1 (foldP J zz P)) ∧ Xt Sp w w' ∧ K (n + (P.length - 1)) w'

/-- A variable of the call's own that holds a summary. -/
structure Box1 (w : World) (b : Nat) (x : S1) : Prop where
  c0 : w.cell? ⟨b, 0, none⟩ = some (.int .u64 x.1)
  c1 : w.cell? ⟨b, 1, none⟩ = some (.int .u64 x.2)
  f0 : w.frozen? ⟨b, 0, none⟩ = false
  f1 : w.frozen? ⟨b, 1, none⟩ = false
theorem Box1.xt {Sp : Option Nat} {w w' : World} {b : Nat} {x : S1} (h : Box1 w b x) (hx : Xt Sp w w') (hn : Sp ≠ some b) : Box1 w' b x := ⟨hx.rd h.c0 hn, hx.rd h.c1 hn, hx.fz h.c0 hn h.f0, hx.fz h.c1 hn h.f1⟩
theorem Box1.set {w : World} {b : Nat} {x y : S1} (h : Box1 w b x) : Box1 ((w.setCell ⟨b, 0, none⟩ (.int .u64 y.1)).setCell ⟨b, 1, none⟩ (.int .u64 y.2)) b y :=
  ⟨(tset_neo (by decide)).trans (tset_eq h.c0), tset_eq ((tset_neo (by decide)).trans h.c1), tset_fz (tset_fz h.f0), tset_fz (tset_fz h.f1)⟩
theorem Box1.off {w : World} {b q : Nat} {x y : S1} (h : Box1 w b x) (hq : b ≠ q) : Box1 ((w.setCell ⟨q, 0, none⟩ (.int .u64 y.1)).setCell ⟨q, 1, none⟩ (.int .u64 y.2)) b x :=
  ⟨(tset_ne hq).trans ((tset_ne hq).trans h.c0), (tset_ne hq).trans ((tset_ne hq).trans h.c1), tset_fz (tset_fz h.f0), tset_fz (tset_fz h.f1)⟩
theorem RowC1.off {w : World} {g q : Nat} {P : List S1} {y : S1} (h : RowC1 w g P) (hq : g ≠ q) : RowC1 ((w.setCell ⟨q, 0, none⟩ (.int .u64 y.1)).setCell ⟨q, 1, none⟩ (.int .u64 y.2)) g P := fun k hk =>
  ⟨(tset_ne hq).trans ((tset_ne hq).trans (h k hk).1), (tset_ne hq).trans ((tset_ne hq).trans (h k hk).2)⟩
theorem Enters.run1 {P : Program} {f : FuncId} (he : Enters P f) (args : Array Value) (w : World) : (callFunc f args).run P w = .ok (.enter f args) w := by
  obtain ⟨fn, hf, hname, hb⟩ := he
  have h1 : fn.name ≠ "runtime.NumGoroutine" := by simpa using hname
  obtain ⟨c, hc⟩ := Option.isSome_iff_exists.1 hb
  simp [callFunc, hf, h1, hc]
theorem gen_code1 {P : Program} {c : Code} {Q : Exit → Act → World → Prop} {a : Act} {w : World} (R : World → Prop) (h0 : R w) (h : ∀ W, R W → c.wp P Q a W) : c.wp P Q a w := h w h0
theorem fold1_any {Sp : Option Nat} {K : Nat → World → Prop} {g : S1 → Nat} {M : Nat} {J : S1 → S1 → S1} {f : FuncId} {caps : Array Value} {z : S1} (hJ : JoinOK Try.prog encS1 Sp K g M J f caps)
    {tb n : Nat} {zz : S1} {pv : Value} {T : T1} {w : World} (i j : Int) (hi : -9223372036854775808 ≤ i ∧ i ≤ 9223372036854775807) (hj : -9223372036854775808 ≤ j ∧ j ≤ 9223372036854775807)
    (ht : TreeAt1 w tb zz (.func (.func f) #[] caps) pv) (htn : Sp ≠ some tb) (h : IsTree1 Sp J z w pv T) (hk : K n w) (hsz : T.size ≤ 4398046511104) (hwt : T.wt g ≤ M) :
    Calls Try.prog 38 #[.pointer (some ⟨tb, 0, none⟩), .int .i64 i, .int .i64 j] w (Folded1 Sp K n J zz (T.pieces J z (max i 0) (min j T.size)) w) := by
  have HT := hid_mk ht
  have H := hid_mk h
  have HK := hid_mk hk
  obtain ⟨mi, hmi⟩ : ∃ mi : Int, (if i < 0 then (0 : Int) else i) = mi := ⟨_, rfl⟩
  obtain ⟨mj, hmj⟩ : ∃ mj : Int, (if (T.size : Int) < j then (T.size : Int) else j) = mj := ⟨_, rfl⟩
  have e1 : max i 0 = mi := by rw [← hmi]; split <;> omega
  have e2 : min j (T.size : Int) = mj := by rw [← hmj]; split <;> omega
  rw [e1, e2]
  have HB := hid_mk (show 0 ≤ mi ∧ mi ≤ 9223372036854775807 ∧ -9223372036854775808 ≤ mj ∧ mj ≤ 9223372036854775807 by omega)
  have HS := hid_mk hsz
  generalize hP : T.pieces J z mi mj = P
  have HPW := hid_mk (show (P.map g).sum ≤ M by rw [← hP]; exact Nat.le_trans (Tr.pieces_wt J z hJ.wtJ T mi mj) hwt)
  have HP := hid_mk hP
  obtain ⟨t0, t1, t2, t3⟩ := ht
  have htblt := cell_lt t0
  have hfr := hJ.fresh hk
  have HFR := hid_mk hfr
  clear h hk e1 e2 hi hj hP hsz hwt hfr
  have HT0 := hid_mk HT.out
  go_enter Try.func38, Try.ntmps38
  go_wp2_with fail
  refine gen_code1 (fun W => Box1 W w.heap.size (0, 0) ∧ Box1 W (w.heap.size + 1) zz ∧ Ext w W ∧ w.heap.size + 1 < W.heap.size) ⟨⟨by go_simp, by go_simp, by go_simp, by go_simp⟩, ⟨by go_simp, by go_simp, by go_simp, by go_simp⟩, by (repeat (first | exact Ext.refl _ | apply Ext.drew_left | apply Ext.drew | apply Ext.alloc | (refine Ext.setT1 ?_ (by simp)))), by simp⟩ ?_
  rintro W ⟨hb6, hb7, hxW, hltW⟩
  obtain ⟨q7, hq7⟩ : ∃ q7, w.heap.size + 1 = q7 := ⟨_, rfl⟩
  rw [hq7] at hb7 hltW
  simp only [hq7]
  have HQ7 := hid_mk hq7
  clear hq7
  have HB6 := hid_mk hb6
  have HB7 := hid_mk hb7
  have HXW := hid_mk hxW
  have HLT := hid_mk hltW
  clear hb6 hb7 hxW hltW
  replace HT := hid_mk (HT.out.xt (Xt.of HXW.out : Xt Sp w W) htn)
  replace H := hid_mk (H.out.xt (Xt.of HXW.out : Xt Sp w W))
  replace HK := hid_mk (hJ.kext HK.out HXW.out)
  clear t0 t1 t2 t3 htblt
  obtain ⟨t0, t1, t2, t3⟩ := HT.out
  have htblt := cell_lt t0
  refine wp_region_held_below (fun _ => true) (.quiet 0 (.quiet 1 (.quiet 2 (.quiet 3 (.quiet 4 (.quiet 5 (.quiet 6 (.quiet 7 (.quiet 8 (.quiet 9 (.quiet 12 (.alt 10 (.quiet 11 .done) .stop)))))))))))) (by kernel_rfl) (by kernel_rfl) (by intro c a w d v h; cases d <;> exact h) (fun ops HO => ?_)
  refine plan_read _ (hi_of HO rfl) rfl (fun w' hE => by (repeat (with_reducible replace hE := Ext.unD hE)); have hcE := hE.hc; clear hE; go_simp; rfl) ?_
  simp only [Act.put, List.setIfInBounds_toArray, List.set_cons_succ, List.set_cons_zero]
  refine plan_read _ (hi_of HO rfl) rfl (fun w' hE => by (repeat (with_reducible replace hE := Ext.unD hE)); have hcE := hE.hc; clear hE; go_simp; rfl) ?_
  simp only [Act.put, List.setIfInBounds_toArray, List.set_cons_succ, List.set_cons_zero]
  refine plan_read _ (hi_of HO rfl) rfl (fun w' hE => by (repeat (with_reducible replace hE := Ext.unD hE)); have hcE := hE.hc; clear hE; go_simp; rfl) ?_
  simp only [Act.put, List.setIfInBounds_toArray, List.set_cons_succ, List.set_cons_zero]
  refine plan_read _ (hi_of HO rfl) rfl (fun w' hE => by (repeat (with_reducible replace hE := Ext.unD hE)); have hcE := hE.hc; clear hE; go_simp; rfl) ?_
  simp only [Act.put, List.setIfInBounds_toArray, List.set_cons_succ, List.set_cons_zero]
  refine plan_read _ (hi_of HO rfl) rfl (fun w' hE => by (repeat (with_reducible replace hE := Ext.unD hE)); have hcE := hE.hc; clear hE; go_simp; rfl) ?_
  simp only [Act.put, List.setIfInBounds_toArray, List.set_cons_succ, List.set_cons_zero]
  refine plan_read _ (hi_of HO rfl) rfl (fun w' hE => by (repeat (with_reducible replace hE := Ext.unD hE)); have hcE := hE.hc; clear hE; go_simp; rfl) ?_
  simp only [Act.put, List.setIfInBounds_toArray, List.set_cons_succ, List.set_cons_zero]
  refine plan_read _ (hi_of HO rfl) rfl (fun w' hE => by (repeat (with_reducible replace hE := Ext.unD hE)); have hcE := hE.hc; clear hE; go_simp; rfl) ?_
  simp only [Act.put, List.setIfInBounds_toArray, List.set_cons_succ, List.set_cons_zero]
  refine plan_read _ (hi_of HO rfl) rfl (fun w' hE => by (repeat (with_reducible replace hE := Ext.unD hE)); have hcE := hE.hc; clear hE; go_simp; rfl) ?_
  simp only [Act.put, List.setIfInBounds_toArray, List.set_cons_succ, List.set_cons_zero]
  refine plan_pure _ en_TLen1 (hi_of HO rfl) rfl rfl (by go_simp; rfl) (fun w' hE => by exact len1_any (HT.out.xt (Xt.of (Ext.unD hE)) htn) (H.out.xt (Xt.of (Ext.unD hE)))) ?_
  simp only [Act.put, List.setIfInBounds_toArray, List.set_cons_succ, List.set_cons_zero]
  refine plan_read _ (hi_of HO rfl) rfl (fun w' hE => by (repeat (with_reducible replace hE := Ext.unD hE)); have hcE := hE.hc; clear hE; go_simp; rfl) ?_
  simp only [Act.put, List.setIfInBounds_toArray, List.set_cons_succ, List.set_cons_zero]
  refine plan_read _ (hi_of HO rfl) rfl (fun w' hE => by (repeat (with_reducible replace hE := Ext.unD hE)); have hcE := hE.hc; clear hE; go_simp; rfl) ?_
  simp only [Act.put, List.setIfInBounds_toArray, List.set_cons_succ, List.set_cons_zero]
  refine plan_call1 en_Tpieces1 (hi_of HO rfl) rfl rfl (by go_simp; rfl) (by exact (pieces1_any T H.out HS.out mi mj HB.out.1 HB.out.2.1 HB.out.2.2.1 HB.out.2.2.2 (by (repeat (first | exact Ext.refl _ | apply Ext.drew_left | apply Ext.drew | apply Ext.alloc))) (L := []) ⟨rfl, .inl ⟨rfl, rfl⟩⟩ (by have := HS.out; simp; omega))) ?_
  rintro e w2 ⟨v2, rfl, ho2, hx2⟩
  refine ⟨_, rfl, fun _ => hx2.drew_left, ?_⟩
  rw [List.nil_append, HP.out] at ho2
  have HO2 := hid_mk ho2
  have HX2 := hid_mk hx2
  have hfm := own_form ho2
  obtain ⟨a2, c2, rfl⟩ := hfm
  clear hx2 ho2
  simp only [Act.put, List.setIfInBounds_toArray, List.set_cons_succ, List.set_cons_zero]
  refine plan_read _ (hi_of HO rfl) rfl (fun w' hE => by (repeat (with_reducible replace hE := Ext.unD hE)); have hcE := hE.hc; clear hE; go_simp; rfl) ?_
  simp only [Act.put, List.setIfInBounds_toArray, List.set_cons_succ, List.set_cons_zero]
  refine plan_done ?fin101
  clear HO ops t0 t1 t2 t3 htblt
  replace HK := hid_mk (hJ.kext HK.out HX2.out)
  have HTT := hid_mk (HT.out.xt (Xt.of HX2.out : Xt Sp W w2) htn)
  have HPL := hid_mk (show P.length ≤ 4398046511104 by rw [← HP.out]; exact Nat.le_trans (Tr.pieces_le _ _ _ _ _) HS.out)
  go_wp2
  have HX2W := hid_mk (Ext.trans _ _ _ HXW.out HX2.out)
  have HB6' := hid_mk (HB6.out.xt (Xt.of HX2.out : Xt Sp W w2) (HFR.out _ (Nat.le_refl _)))
  have HB7' := hid_mk (HB7.out.xt (Xt.of HX2.out : Xt Sp W w2) (HFR.out _ (by have := HQ7.out; omega)))
  obtain ⟨gg, hgg⟩ : ∃ gg, 0 < P.length → a2 = some ⟨gg, 0, none⟩ ∧ W.heap.size ≤ gg ∧ RowC1 w2 gg P := by
    by_cases hp : 0 < P.length
    · obtain ⟨gg, cc, ee, h1, h2⟩ := own1_rowc HO2.out hp
      cases ee
      exact ⟨gg, fun _ => ⟨rfl, h1, h2⟩⟩
    · exact ⟨0, fun h => absurd h hp⟩
  have HGG := hid_mk hgg
  clear hgg
  go_loopw [26] (fun c wr => ∃ m : Nat, m ≤ P.length ∧ c = .int .i64 (m : Int) ∧ Box1 wr w.heap.size (0, 0) ∧ Box1 wr q7 (foldP J zz (P.take m)) ∧ (0 < P.length → RowC1 wr gg P) ∧ w2.heap.size ≤ wr.heap.size ∧ Xt Sp w wr ∧ K (n + (m - 1)) wr) (fun c _ => P.length - (intOf c).toNat)
  case atStart => exact ⟨0, Nat.zero_le _, rfl, HB6'.out, HB7'.out, fun h => (HGG.out h).2.2, Nat.le_refl _, Xt.of HX2W.out, HK.out⟩
  case round =>
    obtain ⟨m, hm, rfl, hb6, hb7, hrw, hsz, hxr, hkr⟩ := hrel
    have HXR := hid_mk hxr
    have HKR := hid_mk hkr
    have HB6r := hid_mk hb6
    have HB7r := hid_mk hb7
    have HRW := hid_mk hrw
    have HSZ := hid_mk hsz
    clear hxr hkr hrw hsz
    by_cases hlt : m < P.length
    · obtain ⟨rfl, hgB, -⟩ := HGG.out (by omega)
      have hfr6 : Sp ≠ some w.heap.size := HFR.out _ (Nat.le_refl _)
      have hfr7 : Sp ≠ some q7 := HFR.out _ (by have := HQ7.out; omega)
      have HG7 := hid_mk (show gg ≠ q7 by have := HLT.out; omega)
      have hgn : Sp ≠ some gg := HFR.out _ (by have := HLT.out; have := HQ7.out; omega)
      obtain ⟨r0, r1⟩ := HRW.out (by omega) m hlt
      have hglt := cell_lt r0
      obtain ⟨s0, s1, s2, s3⟩ := hb7
      have hslt := cell_lt s0
      obtain ⟨t0, t1, t2, t3⟩ := HT0.out.xt HXR.out htn
      have htblt := cell_lt t0
      have hm63 : (m : Int) < (P.length : Int) := by omega
      have hm0 : (0 : Int) ≤ (m : Int) := by omega
      have hw1 : IntKind.i64.wrap ((m : Int) + 1) = (m : Int) + 1 := by have := HPL.out; rw [IntKind.wrap_i64]; omega
      clear hb6
      by_cases hz : m = 0
      · subst hz
        go_wp2
        go_roundw
        case rel =>
          refine ⟨1, by omega, rfl, (HB6r.out.off (by have := HQ7.out; omega)).xt (Xt.of ((Ext.refl _).alloc _) : Xt Sp _ _) hfr6, ?_, fun h => ((HRW.out h).off HG7.out).xt (Xt.of ((Ext.refl _).alloc _) : Xt Sp _ _) hgn, by have := HSZ.out; simp [World.setCell]; omega,
            ((HXR.out.set (by have := HQ7.out; omega)).set (by have := HQ7.out; omega)).alloc _, hJ.kext (hJ.kset (hJ.kset HKR.out hfr7) hfr7) ((Ext.refl _).alloc _)⟩
          rw [foldP_one _ _ _ hlt]
          exact HB7r.out.set.xt (Xt.of ((Ext.refl _).alloc _) : Xt Sp _ _) hfr7
        case measure => simp [intOf]; omega
      · have hz' : ¬ ((m : Int) = 0) := by omega
        have hfrt : Sp ≠ some wr.heap.size := HFR.out _ (by have := HXR.out.size; omega)
        have HROOM := hid_mk (Nat.le_trans (foldP_room (z := zz) hJ.wtJ P m hlt (by omega)) HPW.out)
        have HTK := hid_mk (foldP_take J zz P m hlt (by omega))
        go_wp2_with fail
        refine wp_region_held_plan (Xt Sp) (fun i => i != 7) (.quiet 0 (.quiet 1 (.quiet 2 (.quiet 3 (.quiet 4 (.quiet 5 (.alt 6 (.alt 7 .done .stop) .stop))))))) (by kernel_rfl) (by kernel_rfl) Xt.refl Xt.trans (by intro c a w d v h; cases d <;> exact h) (fun ops HO => ?_)
        refine plan_read _ (hi_of HO rfl) rfl (fun w' hE => by (repeat (with_reducible replace hE := Xt.unD hE)); have hcE := hE.hc; clear hE; go_simp; rfl) ?_
        simp only [Act.put, List.setIfInBounds_toArray, List.set_cons_succ, List.set_cons_zero]
        refine plan_read _ (hi_of HO rfl) rfl (fun w' hE => by (repeat (with_reducible replace hE := Xt.unD hE)); have hcE := hE.hc; clear hE; go_simp; rfl) ?_
        simp only [Act.put, List.setIfInBounds_toArray, List.set_cons_succ, List.set_cons_zero]
        refine plan_read _ (hi_of HO rfl) rfl (fun w' hE => by (repeat (with_reducible replace hE := Xt.unD hE)); have hcE := hE.hc; clear hE; go_simp; rfl) ?_
        simp only [Act.put, List.setIfInBounds_toArray, List.set_cons_succ, List.set_cons_zero]
        refine plan_read _ (hi_of HO rfl) rfl (fun w' hE => by (repeat (with_reducible replace hE := Xt.unD hE)); have hcE := hE.hc; clear hE; go_simp; rfl) ?_
        simp only [Act.put, List.setIfInBounds_toArray, List.set_cons_succ, List.set_cons_zero]
        refine plan_read _ (hi_of HO rfl) rfl (fun w' hE => by (repeat (with_reducible replace hE := Xt.unD hE)); have hcE := hE.hc; clear hE; go_simp; rfl) ?_
        simp only [Act.put, List.setIfInBounds_toArray, List.set_cons_succ, List.set_cons_zero]
        refine plan_read _ (hi_of HO rfl) rfl (fun w' hE => by (repeat (with_reducible replace hE := Xt.unD hE)); have hcE := hE.hc; clear hE; go_simp; rfl) ?_
        simp only [Act.put, List.setIfInBounds_toArray, List.set_cons_succ, List.set_cons_zero]
        refine plan_callv1 hJ.enters (hi_of HO rfl) rfl rfl (by go_simp; rfl) (by go_simp; rfl) (by exact (hJ.call (foldP J zz (P.take m)) P[m] _ _ (hJ.kext HKR.out (by (repeat (first | exact Ext.refl _ | apply Ext.drew_left | apply Ext.drew | apply Ext.alloc)))) HROOM.out)) ?_
        rintro e v9 ⟨rfl, hx9, hk9⟩
        refine ⟨_, rfl, fun _ => hx9, ?_⟩
        have HX9 := hid_mk (Xt.trans wr _ _ (Xt.of (by (repeat (first | exact Ext.refl _ | apply Ext.drew_left | apply Ext.drew | apply Ext.alloc)))) hx9)
        have HK9 := hid_mk hk9
        obtain ⟨y0, y1, y2, y3⟩ := HB7r.out.xt HX9.out hfr7
        have hylt := cell_lt y0
        clear hx9 hk9
        simp only [Act.put, List.setIfInBounds_toArray, List.set_cons_succ, List.set_cons_zero]
        refine plan_loud1 (hi_of HO rfl) rfl ?_
        go_simp
        skip
        refine plan_done ?fin102
        go_wp2
        go_roundw
        case rel =>
          refine ⟨m + 1, by omega, by go_num, (HB6r.out.xt HX9.out hfr6).off (by have := HQ7.out; omega), ?_, fun h => ((HRW.out h).xt HX9.out hgn).off HG7.out, by have := HSZ.out; have := HX9.out.size; simp [World.setCell]; omega,
            ((Xt.trans _ _ _ HXR.out HX9.out).set (by have := HQ7.out; omega)).set (by have := HQ7.out; omega), kcast (hJ.kset (hJ.kset HK9.out hfr7) hfr7) (by omega)⟩
          rw [HTK.out]
          exact (HB7r.out.xt HX9.out hfr7).set
        case measure => simp [intOf]; omega
    · have hfr6 : Sp ≠ some w.heap.size := HFR.out _ (Nat.le_refl _)
      obtain rfl : m = P.length := by omega
      rw [List.take_length] at hb7 HB7r
      obtain ⟨s0, s1, s2, s3⟩ := hb7
      obtain ⟨u0, u1, u2, u3⟩ := hb6
      have hslt := cell_lt s0
      have hult := cell_lt u0
      go_wp2
      refine bodyPost_ret (v := .agg #[.int .u64 (foldP J zz P).1, .int .u64 (foldP J zz P).2]) (by unfold results; rw [Try.results38]; go_simp) rfl ⟨rfl, ?_, ?_⟩
      · exact (HXR.out.set (Nat.le_refl _)).set (Nat.le_refl _)
      · exact hJ.kset (hJ.kset HKR.out hfr6) hfr6
end Go.Proofs.Ytgglbohcnlcagaa
