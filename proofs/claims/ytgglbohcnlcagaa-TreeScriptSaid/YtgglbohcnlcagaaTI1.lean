/- What makes a tree, what copies it, and Put. (One of three instances.) -/
import Derived.Test.YtgglbohcnlcagaaTF1
import Derived.Test.YtgglbohcnlcagaaTX
namespace Go.Proofs.Ytgglbohcnlcagaa
open Go.RowKit
set_option maxHeartbeats 2000000
set_option maxRecDepth 100000
set_option linter.unusedSimpArgs false
set_option linter.unusedVariables false
theorem en_TPut1 : Enters Try.prog 61 := ⟨_, Try.func61, by kernel_rfl, rfl⟩
theorem en_TNew1 : Enters Try.prog 59 := ⟨_, Try.func59, by kernel_rfl, rfl⟩
theorem en_TClone1 : Enters Try.prog 62 := ⟨_, Try.func62, by kernel_rfl, rfl⟩

@[go_sem] theorem run_store_func {P : Program} {w : World} {a : Addr} {m : Mode} (f : Fn) (b c : Array Value) : (store a (.func f b c) m).run P w = stored P w a (.func f b c) m := run_store P w a _ m rfl
/-- A tree's own cells, of which the root may be written. -/
structure TreeW1 (w : World) (b : Nat) (z : S1) (f : FuncId) (caps : Array Value) (rv : Value) : Prop where
  at_ : TreeAt1 w b z (.func (.func f) #[] caps) rv
  fz : w.frozen? ⟨b, 3, none⟩ = false
theorem TreeW1.xt {Sp : Option Nat} {w w' : World} {b : Nat} {z : S1} {f : FuncId} {caps : Array Value} {rv : Value} (q : TreeW1 w b z f caps rv) (hx : Xt Sp w w') (hn : Sp ≠ some b) : TreeW1 w' b z f caps rv :=
  ⟨q.at_.xt hx hn, hx.fz q.at_.c3 hn q.fz⟩
theorem TreeW1.set {w : World} {b : Nat} {z : S1} {f : FuncId} {caps : Array Value} {rv pv : Value} (q : TreeW1 w b z f caps rv) : TreeW1 (w.setCell ⟨b, 3, none⟩ pv) b z f caps pv :=
  ⟨⟨(tset_neo (by decide)).trans q.at_.c0, (tset_neo (by decide)).trans q.at_.c1, (tset_neo (by decide)).trans q.at_.c2, tset_eq q.at_.c3⟩, tset_fz q.fz⟩
/-- No node lies where a tree's own cells lie. -/
theorem TreeAt1.no {w : World} {b : Nat} {z : S1} {f : FuncId} {caps : Array Value} {rv : Value} (q : TreeAt1 w b z (.func (.func f) #[] caps) rv) {k : ByteArray} {v : V1} {s sm : S1} {pl pr : Value} {n h : Int} : ¬ NodeAt1 w b k v s sm pl pr n h := by
  intro hN
  have h1 := q.c1.symm.trans hN.c1
  simp at h1
theorem IsTree1.to {Sp Sq : Option Nat} {J : S1 → S1 → S1} {z : S1} {w : World} (hq : ∀ b, Sq = some b → ∀ k v s sm pl pr n h, ¬ NodeAt1 w b k v s sm pl pr n h) : ∀ {pv : Value} {T : T1}, IsTree1 Sp J z w pv T → IsTree1 Sq J z w pv T
  | _, .nil, h => h
  | _, .node l k v s r, ⟨b, pl, pr, h1, h2, h3, h4, h5⟩ => ⟨b, pl, pr, h1, fun e => hq b e _ _ _ _ _ _ _ _ h3, h3, h4.to hq, h5.to hq⟩
theorem IsTree1.none {Sp : Option Nat} {J : S1 → S1 → S1} {z : S1} {w : World} {pv : Value} {T : T1} (h : IsTree1 Sp J z w pv T) : IsTree1 Option.none J z w pv T := h.to (by simp)
theorem IsTree1.away {Sp Sq : Option Nat} {J : S1 → S1 → S1} {z : S1} {w w' : World} (hq : ∀ b, Sq = some b → ∀ k v s sm pl pr n h, ¬ NodeAt1 w b k v s sm pl pr n h) (hx : Xt Sq w w') : ∀ {pv : Value} {T : T1}, IsTree1 Sp J z w pv T → IsTree1 Sp J z w' pv T
  | _, .nil, h => h
  | _, .node l k v s r, ⟨b, pl, pr, h1, h2, h3, h4, h5⟩ => ⟨b, pl, pr, h1, h2, h3.xt hx fun e => hq b e _ _ _ _ _ _ _ _ h3, h4.away hq hx, h5.away hq hx⟩
/-- What Put hands back. -/
def Putted1 (Sp : Option Nat) (J : S1 → S1 → S1) (z : S1) (K : Nat → World → Prop) (n tb : Nat) (zz : S1) (f : FuncId) (caps : Array Value) (T : T1) (k : ByteArray) (v : V1) (s : S1) (w : World) (e : Ending) (w' : World) : Prop :=
  e = .returned (.tuple #[encV1 ((T.get k).getD zV1), .bool (T.get k).isSome]) ∧ ∃ pv j, TreeW1 w' tb zz f caps pv ∧ IsTree1 Sp J z w' pv (T.put k v s) ∧ Xl (tb :: Sp.toList) w w' ∧ K (n + j) w' ∧ j ≤ 6 * T.high + 2
theorem new1_any (zz : S1) (f : FuncId) (caps : Array Value) (w : World) :
    Calls Try.prog 59 #[encS1 zz, .func (.func f) #[] caps] w fun e w' => ∃ tb, e = .returned (.pointer (some ⟨tb, 0, none⟩)) ∧ w.heap.size ≤ tb ∧ TreeW1 w' tb zz f caps (.pointer none) ∧ Ext w w' := by
  go_enter Try.func59, Try.ntmps59
  go_wp2
  go_ret
  exact ⟨_, rfl, by simp, ⟨⟨by go_simp, by go_simp, by go_simp, by go_simp⟩, by go_simp⟩, by (repeat (first | exact Ext.refl _ | apply Ext.drew_left | apply Ext.drew | apply Ext.alloc))⟩
theorem clone1_any {zz : S1} {f : FuncId} {caps : Array Value} {tb : Nat} {pa : Option Addr} {w : World} (ht : TreeW1 w tb zz f caps (.pointer pa)) :
    Calls Try.prog 62 #[.pointer (some ⟨tb, 0, none⟩)] w fun e w' => ∃ tb', e = .returned (.pointer (some ⟨tb', 0, none⟩)) ∧ w.heap.size ≤ tb' ∧ TreeW1 w' tb' zz f caps (.pointer pa) ∧ Ext w w' := by
  obtain ⟨⟨t0, t1, t2, t3⟩, f0⟩ := ht
  have htblt := cell_lt t0
  go_enter Try.func62, Try.ntmps62
  go_wp2
  go_ret
  refine ⟨w.heap.size, rfl, Nat.le_refl _, ⟨⟨by go_simp, by go_simp, by go_simp, by go_simp⟩, by go_simp⟩, by (repeat (first | exact Ext.refl _ | apply Ext.drew_left | apply Ext.drew | apply Ext.alloc | (refine Ext.setT1 ?_ (by simp))))⟩
theorem tput1_any {Sp : Option Nat} {K : Nat → World → Prop} {g : S1 → Nat} {M : Nat} {J : S1 → S1 → S1} {f : FuncId} {caps : Array Value} {z : S1} (hJ : JoinOK Try.prog encS1 Sp K g M J f caps)
    {tb n : Nat} {zz : S1} {pv : Value} {T : T1} {w : World} (k : ByteArray) (v : V1) (s : S1)
    (ht : TreeW1 w tb zz f caps pv) (htn : Sp ≠ some tb) (h : IsTree1 Sp J z w pv T) (hk : K n w) (hsz : T.size + 1 ≤ 4611686018427387904) (hwt : T.wt g + g s ≤ M) :
    Calls Try.prog 61 #[.pointer (some ⟨tb, 0, none⟩), .string k, encV1 v, encS1 s] w (Putted1 Sp J z K n tb zz f caps T k v s w) := by
  have HT := hid_mk ht
  have H := hid_mk h
  have HK := hid_mk hk
  have HS := hid_mk (And.intro hsz hwt)
  have HFR := hid_mk (hJ.fresh hk)
  obtain ⟨⟨t0, t1, t2, t3⟩, f0⟩ := ht
  have htblt := cell_lt t0
  obtain ⟨gv, hgv⟩ : ∃ gv, T.get k = gv := ⟨_, rfl⟩
  have HGV := hid_mk hgv
  clear h hk hsz hwt hgv
  go_enter Try.func61, Try.ntmps61
  go_wp2_with fail
  refine (get1_any k (HT.out.at_.xt (Xt.of ((Ext.refl _).alloc _) : Xt none _ _) (by simp)) (H.out.none.xt (Xt.of ((Ext.refl _).alloc _)))).mono ?_
  rintro e w1 ⟨rfl, rfl⟩
  rw [HGV.out]
  generalize hmv : gv.getD zV1 = mv
  generalize hms : gv.isSome = ms
  have HM := hid_mk (And.intro hmv hms)
  clear hmv hms
  go_wp2_with fail
  refine gen_code (fun W => W.cell? ⟨w.heap.size, 0, none⟩ = some (.int .u64 s.1) ∧ W.cell? ⟨w.heap.size, 1, none⟩ = some (.int .u64 s.2) ∧ Ext w W) ⟨by go_simp, by go_simp, by (repeat (first | exact Ext.refl _ | apply Ext.drew_left | apply Ext.drew | apply Ext.alloc))⟩ ?_
  rintro W ⟨b0, b1, hxW⟩
  have hblt := cell_lt b0
  have hbn : Sp ≠ some w.heap.size := HFR.out _ (Nat.le_refl _)
  have HXW := hid_mk hxW
  clear t0 t1 t2 t3 f0 htblt hxW
  have hxn : Sp ≠ some W.heap.size := HFR.out _ HXW.out.below.size
  obtain ⟨⟨t0, t1, t2, t3⟩, f0⟩ := HT.out.xt (Xt.of HXW.out) htn
  have htblt := cell_lt t0
  refine wp_region_held_plan (Xt Sp) (fun i => i != 14) (.quiet 0 (.quiet 1 (.quiet 2 (.quiet 3 (.quiet 4 (.quiet 5 (.quiet 6 (.quiet 7 (.quiet 8 (.quiet 9 (.alt 10 (.alt 11 (.alt 12 (.quiet 13 (.alt 14 .done .stop)) .stop) .stop) .stop))))))))))) (by kernel_rfl) (by kernel_rfl) Xt.refl Xt.trans (by intro c a w d v h; cases d <;> exact h) (fun ops HO => ?_)
  refine plan_read _ (hi_of HO rfl) rfl (fun w' hE => by (repeat (with_reducible replace hE := Xt.unD hE)); have hcE := hE.hc; clear hE; go_simp; rfl) ?_
  simp only [Act.put, List.setIfInBounds_toArray, List.set_cons_succ, List.set_cons_zero]
  refine plan_read _ (hi_of HO rfl) rfl (fun w' hE => by (repeat (with_reducible replace hE := Xt.unD hE)); have hcE := hE.hc; clear hE; go_simp; rfl) ?_
  simp only [Act.put, List.setIfInBounds_toArray, List.set_cons_succ, List.set_cons_zero]
  refine plan_read _ (hi_of HO rfl) rfl (fun w' hE => by (repeat (with_reducible replace hE := Xt.unD hE)); have hcE := hE.hc; clear hE; go_simp; rfl) ?_
  simp only [Act.put, List.setIfInBounds_toArray, List.set_cons_succ, List.set_cons_zero]
  refine plan_read _ (hi_of HO rfl) rfl (fun w' hE => by (repeat (with_reducible replace hE := Xt.unD hE)); have hcE := hE.hc; clear hE; go_simp; rfl) ?_
  simp only [Act.put, List.setIfInBounds_toArray, List.set_cons_succ, List.set_cons_zero]
  refine plan_read _ (hi_of HO rfl) rfl (fun w' hE => by (repeat (with_reducible replace hE := Xt.unD hE)); have hcE := hE.hc; clear hE; go_simp; rfl) ?_
  simp only [Act.put, List.setIfInBounds_toArray, List.set_cons_succ, List.set_cons_zero]
  refine plan_read _ (hi_of HO rfl) rfl (fun w' hE => by (repeat (with_reducible replace hE := Xt.unD hE)); have hcE := hE.hc; clear hE; go_simp; rfl) ?_
  simp only [Act.put, List.setIfInBounds_toArray, List.set_cons_succ, List.set_cons_zero]
  refine plan_read _ (hi_of HO rfl) rfl (fun w' hE => by (repeat (with_reducible replace hE := Xt.unD hE)); have hcE := hE.hc; clear hE; go_simp; rfl) ?_
  simp only [Act.put, List.setIfInBounds_toArray, List.set_cons_succ, List.set_cons_zero]
  refine plan_read _ (hi_of HO rfl) rfl (fun w' hE => by (repeat (with_reducible replace hE := Xt.unD hE)); have hcE := hE.hc; clear hE; go_simp; rfl) ?_
  simp only [Act.put, List.setIfInBounds_toArray, List.set_cons_succ, List.set_cons_zero]
  refine plan_read _ (hi_of HO rfl) rfl (fun w' hE => by (repeat (with_reducible replace hE := Xt.unD hE)); have hcE := hE.hc; clear hE; go_simp; rfl) ?_
  simp only [Act.put, List.setIfInBounds_toArray, List.set_cons_succ, List.set_cons_zero]
  refine plan_read _ (hi_of HO rfl) rfl (fun w' hE => by (repeat (with_reducible replace hE := Xt.unD hE)); have hcE := hE.hc; clear hE; go_simp; rfl) ?_
  simp only [Act.put, List.setIfInBounds_toArray, List.set_cons_succ, List.set_cons_zero]
  refine plan_loud1 (hi_of HO rfl) rfl ?_
  go_simp
  refine ⟨by (repeat (first | exact Xt.refl _ | apply Xt.drew_left | apply Xt.drew | apply Xt.alloc)), ?_⟩
  refine plan_call1 en_Tput1 (hi_of HO rfl) rfl rfl (by go_simp; rfl) (by exact (put1_any hJ (xb := W.heap.size) (k := k) (v := v) (s := s) htn hxn T (HT.out.at_.xt (Xt.trans _ _ _ (Xt.of HXW.out) (Xt.of (by (repeat (first | exact Ext.refl _ | apply Ext.drew_left | apply Ext.drew | apply Ext.alloc))))) htn) ⟨by go_simp, by go_simp, by go_simp, by go_simp⟩ (H.out.xt (Xt.trans _ _ _ (Xt.of HXW.out) (Xt.of (by (repeat (first | exact Ext.refl _ | apply Ext.drew_left | apply Ext.drew | apply Ext.alloc)))))) (hJ.kext HK.out (Ext.trans _ _ _ HXW.out (by (repeat (first | exact Ext.refl _ | apply Ext.drew_left | apply Ext.drew | apply Ext.alloc))))) HS.out.1 HS.out.2)) ?_
  rintro e w9 ⟨pv9, j9, rfl, hT, hx, hk, hj⟩
  obtain ⟨pa9, rfl, -⟩ := hT.ptr
  refine ⟨_, rfl, fun _ => hx, ?_⟩
  have HX9 := hid_mk (Xt.trans w _ _ (Xt.trans _ _ _ (Xt.of HXW.out) (Xt.of (by (repeat (first | exact Ext.refl _ | apply Ext.drew_left | apply Ext.drew | apply Ext.alloc))))) hx)
  have HT9 := hid_mk hT
  have HK9 := hid_mk hk
  have HJ9 := hid_mk hj
  have HTW := hid_mk (HT.out.xt HX9.out htn)
  obtain ⟨⟨y0, y1, y2, y3⟩, y4⟩ := HTW.out
  have hylt := cell_lt y0
  clear hx hT hk hj
  simp only [Act.put, List.setIfInBounds_toArray, List.set_cons_succ, List.set_cons_zero]
  refine plan_loud1 (hi_of HO rfl) rfl ?_
  go_simp
  refine ⟨by (repeat (first | exact Xt.refl _ | apply Xt.drew_left | apply Xt.drew | apply Xt.alloc)), ?_⟩
  refine plan_read _ (hi_of HO rfl) rfl (fun w' hE => by (repeat (with_reducible replace hE := Xt.unD hE)); have hcE := hE.hc; clear hE; go_simp; rfl) ?_
  simp only [Act.put, List.setIfInBounds_toArray, List.set_cons_succ, List.set_cons_zero]
  refine plan_loud1 (hi_of HO rfl) rfl ?_
  go_simp
  skip
  refine plan_done ?fin101
  go_wp2
  refine bodyPost_ret (v := .tuple #[encV1 mv, .bool ms]) (by unfold results; rw [Try.results61]; go_simp) rfl ?_
  refine ⟨by rw [HGV.out, HM.out.1, HM.out.2], .pointer pa9, j9, HTW.out.set, ?_, (Xl.ofXt HX9.out (by intro s hs; simp [hs])).set (by simp), hJ.kset HK9.out htn, HJ9.out⟩
  exact HT9.out.away (Sq := some tb) (by rintro b e k' v' s' sm pl pr n' h'; cases e; exact HTW.out.at_.no) Xt.setAt
end Go.Proofs.Ytgglbohcnlcagaa
