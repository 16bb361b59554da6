/- What a tree in memory answers to Fold. (One of three instances.) -/
import Derived.Test.YtgglbohcnlcagaaTG3
import Derived.Test.YtgglbohcnlcagaaTS
namespace Go.Proofs.Ytgglbohcnlcagaa
open Go.RowKit
set_option maxHeartbeats 2000000
set_option maxRecDepth 100000
set_option linter.unusedSimpArgs false
set_option linter.unusedVariables false
theorem en_TFold3 : Enters Try.prog 87 := ⟨_, Try.func87, by kernel_rfl, rfl⟩
attribute [-go_sem] Builtin.append_

theorem Ext.setT3 {w w' : World} (h : Ext w w') {b o : Nat} {u : Value} (hp : w.heap.size ≤ b) : Ext w (w'.setCell ⟨b, o, none⟩ u) := Ext.of (Below.setCell h.below hp u)
/-- The summaries of a row lie behind one another. -/
def RowC3 (w : World) (g : Nat) (P : List S3) : Prop := ∀ k, (h : k < P.length) → w.cell? ⟨g, k, none⟩ = some (.string P[k])
theorem RowC3.xt {Sp : Option Nat} {w w' : World} {g : Nat} {P : List S3} (h : RowC3 w g P) (hx : Xt Sp w w') (hn : Sp ≠ some g) : RowC3 w' g P := fun k hk => hx.rd (h k hk) hn
theorem own3_rowc {w : World} {B : Nat} {v : Value} {P : List S3} (h : OwnS3 w B v P) (hp : 0 < P.length) : ∃ g c, v = .slice (some ⟨g, 0, none⟩) P.length c ∧ B ≤ g ∧ RowC3 w g P := by
  obtain ⟨g, c, hv, hc⟩ := own_cell h hp
  refine ⟨g, c, hv, ?_, fun k hk => ?_⟩
  · rcases h.2 with ⟨h1, -⟩ | ⟨g', cap, cur, h1, h2, -⟩
    · rw [hv] at h1; cases h1
    · rw [hv] at h1; cases h1; exact h2
  · have k0 : ∀ r, r < 1 → ∀ u, (cS3 P[k])[r]? = some u → w.cell? ⟨g, k * 1 + r, none⟩ = some u := fun r hr u hu => hc _ _ ((flat_get cS3 1 (by omega) cS3_len P k hk r hr).trans hu)
    have h9 := k0 0 (by omega) _ rfl; simpa using h9
/-- What a fold hands back. -/
def Folded3 (Sp : Option Nat) (K : Nat → World → Prop) (n : Nat) (J : S3 → S3 → S3) (zz : S3) (P : List S3) (w : World) (e : Ending) (w' : World) : Prop :=
  e = .returned (encS3 (foldP J zz P)) ∧ Xt Sp w w' ∧ K (n + (P.length - 1)) w'

theorem Enters.run3 {P : Program} {f : FuncId} (he : Enters P f) (args : Array Value) (w : World) : (callFunc f args).run P w = .ok (.enter f args) w := by
  obtain ⟨fn, hf, hname, hb⟩ := he
  have h1 : fn.name ≠ "runtime.NumGoroutine" := by simpa using hname
  obtain ⟨c, hc⟩ := Option.isSome_iff_exists.1 hb
  simp [callFunc, hf, h1, hc]
theorem gen_code3 {P : Program} {c : Code} {Q : Exit → Act → World → Prop} {a : Act} {w : World} (R : World → Prop) (h0 : R w) (h : ∀ W, R W → c.wp P Q a W) : c.wp P Q a w := h w h0
theorem fold3_any {Sp : Option Nat} {K : Nat → World → Prop} {g : S3 → Nat} {M : Nat} {J : S3 → S3 → S3} {f : FuncId} {caps : Array Value} {z : S3} (hJ : JoinOK Try.prog encS3 Sp K g M J f caps)
    {tb n : Nat} {zz : S3} {pv : Value} {T : T3} {w : World} (i j : Int) (hi : -9223372036854775808 ≤ i ∧ i ≤ 9223372036854775807) (hj : -9223372036854775808 ≤ j ∧ j ≤ 9223372036854775807)
    (ht : TreeAt3 w tb zz (.func (.func f) #[] caps) pv) (htn : Sp ≠ some tb) (h : IsTree3 Sp J z w pv T) (hk : K n w) (hsz : T.size ≤ 4398046511104) (hwt : T.wt g ≤ M) :
    Calls Try.prog 87 #[.pointer (some ⟨tb, 0, none⟩), .int .i64 i, .int .i64 j] w (Folded3 Sp K n J zz (T.pieces J z (max i 0) (min j T.size)) w) := by
  have HT := hid_mk ht
  have H := hid_mk h
  have HK := hid_mk hk
  obtain ⟨mi, hmi⟩ : ∃ mi : Int, (if i < 0 then (0 : Int) else i) = mi := ⟨_, rfl⟩
  obtain ⟨mj, hmj⟩ : ∃ mj : Int, (if (T.size : Int) < j then (T.size : Int) else j) = mj := ⟨_, rfl⟩
  have e1 : max i 0 = mi := by rw [← hmi]; split <;> omega
  have e2 : min j (T.size : Int) = mj := by rw [← hmj]; split <;> omega
  rw [e1, e2]
  have HB := hid_mk (show 0 ≤ mi ∧ mi ≤ 9223372036854775807 ∧ -9223372036854775808 ≤ mj ∧ mj ≤ 9223372036854775807 by omega)
  have HS := hid_mk hsz
  generalize hP : T.pieces J z mi mj = P
  have HPW := hid_mk (show (P.map g).sum ≤ M by rw [← hP]; exact Nat.le_trans (Tr.pieces_wt J z hJ.wtJ T mi mj) hwt)
  have HP := hid_mk hP
  obtain ⟨t0, t1, t2⟩ := ht
  have htblt := cell_lt t0
  have hfr := hJ.fresh hk
  have HFR := hid_mk hfr
  clear h hk e1 e2 hi hj hP hsz hwt hfr
  have HT0 := hid_mk HT.out
  go_enter Try.func87, Try.ntmps87
  go_wp2_with fail
  refine gen_code3 (fun W => Ext w W) (by (repeat (first | exact Ext.refl _ | apply Ext.drew_left | apply Ext.drew | apply Ext.alloc))) ?_
  rintro W hxW
  have HXW := hid_mk hxW
  clear hxW
  replace HT := hid_mk (HT.out.xt (Xt.of HXW.out : Xt Sp w W) htn)
  replace H := hid_mk (H.out.xt (Xt.of HXW.out : Xt Sp w W))
  replace HK := hid_mk (hJ.kext HK.out HXW.out)
  clear t0 t1 t2 htblt
  obtain ⟨t0, t1, t2⟩ := HT.out
  have htblt := cell_lt t0
  refine wp_region_held_below (fun _ => true) (.quiet 0 (.quiet 1 (.quiet 2 (.quiet 3 (.quiet 4 (.quiet 5 (.quiet 6 (.quiet 7 (.quiet 8 (.quiet 9 (.quiet 12 (.alt 10 (.quiet 11 .done) .stop)))))))))))) (by kernel_rfl) (by kernel_rfl) (by intro c a w d v h; cases d <;> exact h) (fun ops HO => ?_)
  refine plan_read _ (hi_of HO rfl) rfl (fun w' hE => by (repeat (with_reducible replace hE := Ext.unD hE)); have hcE := hE.hc; clear hE; go_simp; rfl) ?_
  simp only [Act.put, List.setIfInBounds_toArray, List.set_cons_succ, List.set_cons_zero]
  refine plan_read _ (hi_of HO rfl) rfl (fun w' hE => by (repeat (with_reducible replace hE := Ext.unD hE)); have hcE := hE.hc; clear hE; go_simp; rfl) ?_
  simp only [Act.put, List.setIfInBounds_toArray, List.set_cons_succ, List.set_cons_zero]
  refine plan_read _ (hi_of HO rfl) rfl (fun w' hE => by (repeat (with_reducible replace hE := Ext.unD hE)); have hcE := hE.hc; clear hE; go_simp; rfl) ?_
  simp only [Act.put, List.setIfInBounds_toArray, List.set_cons_succ, List.set_cons_zero]
  refine plan_read _ (hi_of HO rfl) rfl (fun w' hE => by (repeat (with_reducible replace hE := Ext.unD hE)); have hcE := hE.hc; clear hE; go_simp; rfl) ?_
  simp only [Act.put, List.setIfInBounds_toArray, List.set_cons_succ, List.set_cons_zero]
  refine plan_read _ (hi_of HO rfl) rfl (fun w' hE => by (repeat (with_reducible replace hE := Ext.unD hE)); have hcE := hE.hc; clear hE; go_simp; rfl) ?_
  simp only [Act.put, List.setIfInBounds_toArray, List.set_cons_succ, List.set_cons_zero]
  refine plan_read _ (hi_of HO rfl) rfl (fun w' hE => by (repeat (with_reducible replace hE := Ext.unD hE)); have hcE := hE.hc; clear hE; go_simp; rfl) ?_
  simp only [Act.put, List.setIfInBounds_toArray, List.set_cons_succ, List.set_cons_zero]
  refine plan_read _ (hi_of HO rfl) rfl (fun w' hE => by (repeat (with_reducible replace hE := Ext.unD hE)); have hcE := hE.hc; clear hE; go_simp; rfl) ?_
  simp only [Act.put, List.setIfInBounds_toArray, List.set_cons_succ, List.set_cons_zero]
  refine plan_read _ (hi_of HO rfl) rfl (fun w' hE => by (repeat (with_reducible replace hE := Ext.unD hE)); have hcE := hE.hc; clear hE; go_simp; rfl) ?_
  simp only [Act.put, List.setIfInBounds_toArray, List.set_cons_succ, List.set_cons_zero]
  refine plan_pure _ en_TLen3 (hi_of HO rfl) rfl rfl (by go_simp; rfl) (fun w' hE => by exact len3_any (HT.out.xt (Xt.of (Ext.unD hE)) htn) (H.out.xt (Xt.of (Ext.unD hE)))) ?_
  simp only [Act.put, List.setIfInBounds_toArray, List.set_cons_succ, List.set_cons_zero]
  refine plan_read _ (hi_of HO rfl) rfl (fun w' hE => by (repeat (with_reducible replace hE := Ext.unD hE)); have hcE := hE.hc; clear hE; go_simp; rfl) ?_
  simp only [Act.put, List.setIfInBounds_toArray, List.set_cons_succ, List.set_cons_zero]
  refine plan_read _ (hi_of HO rfl) rfl (fun w' hE => by (repeat (with_reducible replace hE := Ext.unD hE)); have hcE := hE.hc; clear hE; go_simp; rfl) ?_
  simp only [Act.put, List.setIfInBounds_toArray, List.set_cons_succ, List.set_cons_zero]
  refine plan_call1 en_Tpieces3 (hi_of HO rfl) rfl rfl (by go_simp; rfl) (by exact (pieces3_any T H.out HS.out mi mj HB.out.1 HB.out.2.1 HB.out.2.2.1 HB.out.2.2.2 (by (repeat (first | exact Ext.refl _ | apply Ext.drew_left | apply Ext.drew | apply Ext.alloc))) (L := []) ⟨rfl, .inl ⟨rfl, rfl⟩⟩ (by have := HS.out; simp; omega))) ?_
  rintro e w2 ⟨v2, rfl, ho2, hx2⟩
  refine ⟨_, rfl, fun _ => hx2.drew_left, ?_⟩
  rw [List.nil_append, HP.out] at ho2
  have HO2 := hid_mk ho2
  have HX2 := hid_mk hx2
  have hfm := own_form ho2
  obtain ⟨a2, c2, rfl⟩ := hfm
  clear hx2 ho2
  simp only [Act.put, List.setIfInBounds_toArray, List.set_cons_succ, List.set_cons_zero]
  refine plan_read _ (hi_of HO rfl) rfl (fun w' hE => by (repeat (with_reducible replace hE := Ext.unD hE)); have hcE := hE.hc; clear hE; go_simp; rfl) ?_
  simp only [Act.put, List.setIfInBounds_toArray, List.set_cons_succ, List.set_cons_zero]
  refine plan_done ?fin101
  clear HO ops t0 t1 t2 htblt
  replace HK := hid_mk (hJ.kext HK.out HX2.out)
  have HTT := hid_mk (HT.out.xt (Xt.of HX2.out : Xt Sp W w2) htn)
  have HPL := hid_mk (show P.length ≤ 4398046511104 by rw [← HP.out]; exact Nat.le_trans (Tr.pieces_le _ _ _ _ _) HS.out)
  go_wp2
  go_loopw [26, 7] (fun c o wr => ∃ m : Nat, m ≤ P.length ∧ c = .int .i64 (m : Int) ∧ o = .string (foldP J zz (P.take m)) ∧ Xt Sp w2 wr ∧ K (n + (m - 1)) wr) (fun c _ _ => P.length - (intOf c).toNat)
  case atStart => exact ⟨0, Nat.zero_le _, rfl, rfl, Xt.refl _, HK.out⟩
  case round =>
    obtain ⟨m, hm, rfl, rfl, hxr, hkr⟩ := hrel
    have HXR := hid_mk hxr
    have HKR := hid_mk hkr
    clear hxr hkr
    by_cases hlt : m < P.length
    · obtain ⟨gg, cc, ee, hgB, hrow⟩ := own3_rowc HO2.out (by omega)
      cases ee
      have hgn : Sp ≠ some gg := HFR.out _ (by have := HXW.out.below.size; omega)
      have hcell := hrow.xt HXR.out hgn m hlt
      obtain ⟨t0, t1, t2⟩ := HTT.out.xt HXR.out htn
      have HROW := hid_mk hrow
      clear hrow
      have hm63 : (m : Int) < (P.length : Int) := by omega
      have hm0 : (0 : Int) ≤ (m : Int) := by omega
      have hw1 : IntKind.i64.wrap ((m : Int) + 1) = (m : Int) + 1 := by have := HPL.out; rw [IntKind.wrap_i64]; omega
      have HPk := hid_mk (show P.take (m + 1) = P.take m ++ [P[m]] from List.take_succ_eq_append_getElem hlt)
      by_cases hz : m = 0
      · subst hz
        go_wp2
        go_roundw
        case rel => exact ⟨1, by omega, by go_num, by rw [foldP_one _ _ _ hlt], HXR.out, HKR.out⟩
        case measure => simp [intOf]; omega
      · have hz' : ¬ ((m : Int) = 0) := by omega
        go_wp2_with fail
        rw [Enters.run3 hJ.enters]
        simp only [Oper.upon]
        refine (hJ.call (foldP J zz (P.take m)) P[m] wr _ HKR.out (Nat.le_trans (foldP_room hJ.wtJ P m hlt (by omega)) HPW.out)).mono ?_
        rintro e w3 ⟨rfl, hx3, hk3⟩
        have HX3 := hid_mk (Xt.trans _ _ _ HXR.out hx3)
        have HK3 := hid_mk hk3
        clear hx3 hk3
        go_wp2
        go_roundw
        case rel => exact ⟨m + 1, by omega, by go_num, by rw [foldP_take _ _ _ _ hlt (by omega)], HX3.out, kcast HK3.out (by omega)⟩
        case measure => simp [intOf]; omega
    · obtain rfl : m = P.length := by omega
      rw [List.take_length]
      go_wp2
      go_ret
      exact ⟨rfl, Xt.trans _ _ _ (Xt.of HXW.out) (Xt.trans _ _ _ (Xt.of HX2.out) HXR.out), HKR.out⟩
end Go.Proofs.Ytgglbohcnlcagaa
