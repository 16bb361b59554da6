/- What makes a tree, what copies it, and Put. (One of three instances.) -/
import Derived.Test.YtgglbohcnlcagaaTF3
import Derived.Test.YtgglbohcnlcagaaTX
namespace Go.Proofs.Ytgglbohcnlcagaa
open Go.RowKit
set_option maxHeartbeats 2000000
set_option maxRecDepth 100000
set_option linter.unusedSimpArgs false
set_option linter.unusedVariables false
theorem en_TPut3 : Enters Try.prog 84 := ⟨_, Try.func84, by kernel_rfl, rfl⟩
theorem en_TNew3 : Enters Try.prog 82 := ⟨_, Try.func82, by kernel_rfl, rfl⟩

/-- A tree's own cells, of which the root may be written. -/
structure TreeW3 (w : World) (b : Nat) (z : S3) (f : FuncId) (caps : Array Value) (rv : Value) : Prop where
  at_ : TreeAt3 w b z (.func (.func f) #[] caps) rv
  fz : w.frozen? ⟨b, 2, none⟩ = false
theorem TreeW3.xt {Sp : Option Nat} {w w' : World} {b : Nat} {z : S3} {f : FuncId} {caps : Array Value} {rv : Value} (q : TreeW3 w b z f caps rv) (hx : Xt Sp w w') (hn : Sp ≠ some b) : TreeW3 w' b z f caps rv :=
  ⟨q.at_.xt hx hn, hx.fz q.at_.c2 hn q.fz⟩
theorem TreeW3.set {w : World} {b : Nat} {z : S3} {f : FuncId} {caps : Array Value} {rv pv : Value} (q : TreeW3 w b z f caps rv) : TreeW3 (w.setCell ⟨b, 2, none⟩ pv) b z f caps pv :=
  ⟨⟨(tset_neo (by decide)).trans q.at_.c0, (tset_neo (by decide)).trans q.at_.c1, tset_eq q.at_.c2⟩, tset_fz q.fz⟩
/-- No node lies where a tree's own cells lie. -/
theorem TreeAt3.no {w : World} {b : Nat} {z : S3} {f : FuncId} {caps : Array Value} {rv : Value} (q : TreeAt3 w b z (.func (.func f) #[] caps) rv) {k : ByteArray} {v : V3} {s sm : S3} {pl pr : Value} {n h : Int} : ¬ NodeAt3 w b k v s sm pl pr n h := by
  intro hN
  have h1 := q.c1.symm.trans hN.c1
  simp at h1
theorem IsTree3.to {Sp Sq : Option Nat} {J : S3 → S3 → S3} {z : S3} {w : World} (hq : ∀ b, Sq = some b → ∀ k v s sm pl pr n h, ¬ NodeAt3 w b k v s sm pl pr n h) : ∀ {pv : Value} {T : T3}, IsTree3 Sp J z w pv T → IsTree3 Sq J z w pv T
  | _, .nil, h => h
  | _, .node l k v s r, ⟨b, pl, pr, h1, h2, h3, h4, h5⟩ => ⟨b, pl, pr, h1, fun e => hq b e _ _ _ _ _ _ _ _ h3, h3, h4.to hq, h5.to hq⟩
theorem IsTree3.none {Sp : Option Nat} {J : S3 → S3 → S3} {z : S3} {w : World} {pv : Value} {T : T3} (h : IsTree3 Sp J z w pv T) : IsTree3 Option.none J z w pv T := h.to (by simp)
theorem IsTree3.away {Sp Sq : Option Nat} {J : S3 → S3 → S3} {z : S3} {w w' : World} (hq : ∀ b, Sq = some b → ∀ k v s sm pl pr n h, ¬ NodeAt3 w b k v s sm pl pr n h) (hx : Xt Sq w w') : ∀ {pv : Value} {T : T3}, IsTree3 Sp J z w pv T → IsTree3 Sp J z w' pv T
  | _, .nil, h => h
  | _, .node l k v s r, ⟨b, pl, pr, h1, h2, h3, h4, h5⟩ => ⟨b, pl, pr, h1, h2, h3.xt hx fun e => hq b e _ _ _ _ _ _ _ _ h3, h4.away hq hx, h5.away hq hx⟩
/-- What Put hands back. -/
def Putted3 (Sp : Option Nat) (J : S3 → S3 → S3) (z : S3) (K : Nat → World → Prop) (n tb : Nat) (zz : S3) (f : FuncId) (caps : Array Value) (T : T3) (k : ByteArray) (v : V3) (s : S3) (w : World) (e : Ending) (w' : World) : Prop :=
  e = .returned (.tuple #[encV3 ((T.get k).getD zV3), .bool (T.get k).isSome]) ∧ ∃ pv j, TreeW3 w' tb zz f caps pv ∧ IsTree3 Sp J z w' pv (T.put k v s) ∧ Xl (tb :: Sp.toList) w w' ∧ K (n + j) w' ∧ j ≤ 6 * T.high + 2
theorem new3_any (zz : S3) (f : FuncId) (caps : Array Value) (w : World) :
    Calls Try.prog 82 #[encS3 zz, .func (.func f) #[] caps] w fun e w' => ∃ tb, e = .returned (.pointer (some ⟨tb, 0, none⟩)) ∧ w.heap.size ≤ tb ∧ TreeW3 w' tb zz f caps (.pointer none) ∧ Ext w w' := by
  go_enter Try.func82, Try.ntmps82
  go_wp2
  go_ret
  exact ⟨_, rfl, by simp, ⟨⟨by go_simp, by go_simp, by go_simp⟩, by go_simp⟩, by (repeat (first | exact Ext.refl _ | apply Ext.drew_left | apply Ext.drew | apply Ext.alloc))⟩
theorem tput3_any {Sp : Option Nat} {K : Nat → World → Prop} {g : S3 → Nat} {M : Nat} {J : S3 → S3 → S3} {f : FuncId} {caps : Array Value} {z : S3} (hJ : JoinOK Try.prog encS3 Sp K g M J f caps)
    {tb n : Nat} {zz : S3} {pv : Value} {T : T3} {w : World} (k : ByteArray) (v : V3) (s : S3)
    (ht : TreeW3 w tb zz f caps pv) (htn : Sp ≠ some tb) (h : IsTree3 Sp J z w pv T) (hk : K n w) (hsz : T.size + 1 ≤ 4611686018427387904) (hwt : T.wt g + g s ≤ M) :
    Calls Try.prog 84 #[.pointer (some ⟨tb, 0, none⟩), .string k, encV3 v, encS3 s] w (Putted3 Sp J z K n tb zz f caps T k v s w) := by
  have HT := hid_mk ht
  have H := hid_mk h
  have HK := hid_mk hk
  have HS := hid_mk (And.intro hsz hwt)
  have HFR := hid_mk (hJ.fresh hk)
  obtain ⟨⟨t0, t1, t2⟩, f0⟩ := ht
  have htblt := cell_lt t0
  obtain ⟨gv, hgv⟩ : ∃ gv, T.get k = gv := ⟨_, rfl⟩
  have HGV := hid_mk hgv
  clear h hk hsz hwt hgv
  go_enter Try.func84, Try.ntmps84
  go_wp2_with fail
  refine (get3_any k HT.out.at_ H.out).mono ?_
  rintro e w1 ⟨rfl, rfl⟩
  rw [HGV.out]
  generalize hmv : gv.getD zV3 = mv
  generalize hms : gv.isSome = ms
  have HM := hid_mk (And.intro hmv hms)
  clear hmv hms
  go_wp2_with fail
  have hxn : Sp ≠ some w.heap.size := HFR.out _ (Nat.le_refl _)
  refine (put3_any hJ (xb := w.heap.size) (k := k) (v := v) (s := s) htn hxn T (HT.out.at_.xt (Xt.of (by (repeat (first | exact Ext.refl _ | apply Ext.drew_left | apply Ext.drew | apply Ext.alloc)))) htn) ⟨by go_simp, by go_simp, by go_simp⟩ (H.out.xt (Xt.of (by (repeat (first | exact Ext.refl _ | apply Ext.drew_left | apply Ext.drew | apply Ext.alloc))))) (hJ.kext HK.out (by (repeat (first | exact Ext.refl _ | apply Ext.drew_left | apply Ext.drew | apply Ext.alloc)))) HS.out.1 HS.out.2).mono ?_
  rintro e w9 ⟨pv9, j9, rfl, hT, hx, hk, hj⟩
  obtain ⟨pa9, rfl, -⟩ := hT.ptr
  have HX9 := hid_mk (Xt.trans w _ _ (Xt.of (by (repeat (first | exact Ext.refl _ | apply Ext.drew_left | apply Ext.drew | apply Ext.alloc)))) hx)
  have HT9 := hid_mk hT
  have HK9 := hid_mk hk
  have HJ9 := hid_mk hj
  have HTW := hid_mk (HT.out.xt HX9.out htn)
  obtain ⟨⟨y0, y1, y2⟩, y4⟩ := HTW.out
  have hylt := cell_lt y0
  clear hx hT hk hj
  go_wp2
  refine bodyPost_ret (v := .tuple #[encV3 mv, .bool ms]) (by unfold results; rw [Try.results84]; go_simp) rfl ?_
  refine ⟨by rw [HGV.out, HM.out.1, HM.out.2], .pointer pa9, j9, HTW.out.set, ?_, (Xl.ofXt HX9.out (by intro s hs; simp [hs])).set (by simp), hJ.kset HK9.out htn, HJ9.out⟩
  exact HT9.out.away (Sq := some tb) (by rintro b e k' v' s' sm pl pr n' h'; cases e; exact HTW.out.at_.no) Xt.setAt
end Go.Proofs.Ytgglbohcnlcagaa
