/- Stores: New; the examples of the document hold; the walk of StoreNew. -/
import Derived.Test.YtokcgnbjkbhmiaaDoorMQG
import Derived.Test.YtokcgnbjkbhmiaaDoorMPA
import Derived.Test.YtokcgnbjkbhmiaaDoorMHP
namespace Go.Proofs.YtokcgnbjkbhmiaaDoor
open Go.RowKit Go.Lib
set_option maxHeartbeats 4000000
set_option maxRecDepth 100000
set_option linter.unusedSimpArgs false
set_option linter.unusedVariables false
theorem en_s8Shown : Enters Tryd.prog 21 := ⟨_, Tryd.func21, by kernel_rfl, rfl⟩
theorem en_StoreNew : Enters Tryd.prog 4 := ⟨_, Tryd.func4, by kernel_rfl, rfl⟩
/-- What New hands back. -/
def NewPost (w : World) (node : Int) (r : Ending) (w' : World) : Prop :=
  (0 ≤ node ∧ node < 8 ∧ ∃ sb mb tb n, r = .returned (.tuple #[.pointer (some ⟨sb, 0, none⟩), .int .i64 0]) ∧ (w.heap.size ≤ sb ∧ w.heap.size ≤ mb ∧ w.heap.size ≤ tb) ∧ StW w' sb mb tb n (stNil node) ∧ Ext w w') ∨
  (¬ (0 ≤ node ∧ node < 8) ∧ r = .returned (.tuple #[.pointer none, .int .i64 1]) ∧ Ext w w')
theorem stNew_any {w : World} (node : Int) (hl : LanesAt w) : Calls Tryd.prog 22 #[.int .i64 node] w (NewPost w node) := by
  have HL := hid_mk hl
  clear hl
  go_enter Tryd.func22, Tryd.ntmps22
  go_wp2_with fail
  refine (stLoad_any node 0 (.slice none 0 0) [] ⟨none, 0, rfl, Nat.le_refl _, by simp, by simp⟩ HL.out).mono ?_
  rintro r w' (⟨h1, sb, mb, tb, n, rfl, h2, h3, h4⟩ | ⟨h1, rfl, h2⟩)
  · go_wp2
    refine bodyPost_ret (v := .tuple #[.pointer (some ⟨sb, 0, none⟩), .int .i64 0]) (by unfold results; rw [Tryd.results22]; go_simp; first | done | rfl) rfl ?_
    have h5 := (ldE_ok h1).id
    exact .inl ⟨h5.1, h5.2, sb, mb, tb, n, rfl, h2, h3, h4⟩
  · have hE : ldE node 0 [] = 1 ∧ ¬ (0 ≤ node ∧ node < 8) := by
      unfold ldE at h1 ⊢
      split
      · rename_i h; exact ⟨rfl, by omega⟩
      · rename_i h; rw [if_neg h] at h1; simp [ldP] at h1
    rw [hE.1]
    go_wp2
    refine bodyPost_ret (v := .tuple #[.pointer none, .int .i64 1]) (by unfold results; rw [Tryd.results22]; go_simp; first | done | rfl) rfl ?_
    exact .inr ⟨hE.2, rfl, h2⟩
/-- What a call of a store's leaves, as seen from a world in which the store was not there yet. -/
theorem post_new {w0 w w' : World} {sb mb tb n : Nat} {s s' : St} (hx : Ext w0 w) (hb : w0.heap.size ≤ sb ∧ w0.heap.size ≤ mb ∧ w0.heap.size ≤ tb) (h : StPost w sb mb tb n s s' w') : Ext w0 w' ∧ ∃ n', StW w' sb mb tb n' s' :=
  ⟨Xl.ext hx h.1 (by simp; omega), by obtain ⟨n', h1, -⟩ := h.2; exact ⟨n', h1⟩⟩
theorem sv3 : wrV sS2 kA kN = (3, 3) := by rw [wrV, if_pos se3]; rfl
theorem sv5 : wrV sS4 kA kY = (10, 3) := by rw [wrV, if_pos se5]; rfl
theorem sq5 (w : World) : (binOp .eql 57 (.agg #[.string kA, .int .i64 10, .int .i64 3, .string kY, .bool false]) (.agg #[.string kA, .int .i64 10, .int .i64 3, .string kY, .bool false])).run Tryd.prog w = .ok (.bool true) w := by
  have h := eql_entE w xA5 xA5
  rw [decide_eq_true rfl] at h
  exact h
theorem sq3 (w : World) : (binOp .eql 55 (.agg #[.int .i64 3, .int .i64 3]) (.agg #[.int .i64 3, .int .i64 3])).run Tryd.prog w = .ok (.bool true) w := by
  have h := eql_ver w 3 3 3 3
  rw [decide_eq_true ⟨rfl, rfl⟩] at h
  exact h
theorem sq10 (w : World) : (binOp .eql 55 (.agg #[.int .i64 10, .int .i64 3]) (.agg #[.int .i64 10, .int .i64 3])).run Tryd.prog w = .ok (.bool true) w := by
  have h := eql_ver w 10 3 10 3
  rw [decide_eq_true ⟨rfl, rfl⟩] at h
  exact h
attribute [local go_sem ↓] sq5 sq3 sq10
theorem okS2 : StOk sS2 := ss2 ▸ wrS_ok (ss1 ▸ wrS_ok (stNil_ok (by omega)) (by simp)) (by simp)
theorem okS4 : StOk sS4 := ss4 ▸ tkS_ok (ss3 ▸ wrS_ok okS2 (by simp)) _
theorem okS5 : StOk sS5 := ss5 ▸ wrS_ok okS4 (by simp)
theorem sgv : gtV kA sS5.l = .tuple #[.agg #[.string kA, .int .i64 10, .int .i64 3, .string kY, .bool false], .bool true, .int .i64 0] := by
  unfold gtV
  have h : ¬ (16 < (kA.size : Int)) := by decide
  rw [if_neg h, if_neg h, if_neg h, sg5]
  rfl
theorem fd_bad : fdT kX kA false sS5.l = (0, 0, 0) := by
  unfold fdT
  rw [sr1]
  rfl
theorem fold_post {w w' : World} {sb mb tb n : Nat} {s : St} (h : Xl [mb] w w' ∧ ∃ n', StW w' sb mb tb n' s ∧ Cost s.l.length n n') : StPost w sb mb tb n s s w' := ⟨h.1.more (by simp), h.2⟩
/-- A store's tally of a range: a small one. -/
theorem fd_one : ∃ a b, fdT kB kC false sS5.l = (1, a, b) := by
  refine ⟨sum0 (inF kB kC false sS5.l), sum1 (inF kB kC false sS5.l), ?_⟩
  unfold fdT
  rw [if_pos sr2, sl_range okS5.srt (by decide) sr2]
  unfold talL
  rw [sf2]
  rfl
theorem shown8_any (w0 : World) (hl : LanesAt w0) : Calls Tryd.prog 21 #[] w0 fun e w' => e = .returned (.bool true) ∧ Ext w0 w' := by
  have HL := hid_mk hl
  clear hl
  go_enter Tryd.func21, Tryd.ntmps21
  go_wp2_with fail
  refine (stNew_any 3 HL.out).mono ?_
  rintro r w1 (⟨-, -, sb, mb, tb, n1, rfl, hb, hs, hx⟩ | ⟨h, -, -⟩)
  rotate_left
  · exact absurd (by omega) h
  have HB := hid_mk hb
  have HX := hid_mk hx
  have HS := hid_mk (show StW w1 sb mb tb n1 sS0 from hs)
  clear hb hs hx
  go_wp2_with fail
  refine (stPut_any kA kX HS.out (stNil_ok (by omega)) (HL.out.ext HX.out)).mono ?_
  rintro r w2 ⟨rfl, hp⟩
  rw [ss1] at hp
  obtain ⟨hx, n', hs⟩ := post_new HX.out HB.out hp
  replace HX := hid_mk hx
  replace HS := hid_mk hs
  clear hp hx hs
  go_wp2_with fail
  refine (stPut_any kB kN HS.out (ss1 ▸ wrS_ok (stNil_ok (by omega)) (by simp)) (HL.out.ext HX.out)).mono ?_
  rintro r w3 ⟨rfl, hp⟩
  rw [ss2] at hp
  obtain ⟨hx, n', hs⟩ := post_new HX.out HB.out hp
  replace HX := hid_mk hx
  replace HS := hid_mk hs
  clear hp hx hs
  go_wp2_with fail
  refine (stDelete_any kA HS.out okS2 (HL.out.ext HX.out)).mono ?_
  rintro r w4 ⟨rfl, hp⟩
  rw [ss3] at hp
  rw [sv3, se3]
  obtain ⟨hx, n', hs⟩ := post_new HX.out HB.out hp
  replace HX := hid_mk hx
  replace HS := hid_mk hs
  clear hp hx hs
  dsimp only
  go_wp2_with fail
  obtain ⟨q3, hq3⟩ : ∃ q, w4.heap.size = q := ⟨_, rfl⟩
  simp only [hq3]
  refine gen_callsT (fun W => VrB W q3 3 3 ∧ Ext w4 W) ⟨by rw [← hq3]; exact VrB.new w4 3 3, by (repeat (first | exact Ext.refl _ | apply Ext.drew_left | apply Ext.drew | apply Ext.alloc))⟩ ?_
  rintro W ⟨hv, hxW⟩
  refine (stTake_any xC (HS.out.ext hxW) (HL.out.ext (Ext.trans _ _ _ HX.out hxW))).mono ?_
  rintro r w5 ⟨rfl, hp⟩
  rw [ss4] at hp
  rw [sb4, st4]
  have HQ3 := hid_mk (show sb < q3 ∧ mb < q3 ∧ tb < q3 by have := HS.out.lt; have := HS.out.mlt; have := HS.out.tlt; omega)
  have HV3 := hid_mk (hv.xl hp.1 (by have := HQ3.out; simp; omega))
  replace HX := hid_mk (Ext.trans _ _ _ HX.out hxW)
  clear hv hxW hq3
  obtain ⟨hx, n', hs⟩ := post_new HX.out HB.out hp
  replace HX := hid_mk hx
  replace HS := hid_mk hs
  clear hp hx hs
  go_wp2_with fail
  refine (stPut_any kA kY HS.out okS4 (HL.out.ext HX.out)).mono ?_
  rintro r w6 ⟨rfl, hp⟩
  rw [ss5] at hp
  rw [sv5, se5]
  replace HV3 := hid_mk (HV3.out.xl hp.1 (by have := HQ3.out; simp; omega))
  obtain ⟨hx, n', hs⟩ := post_new HX.out HB.out hp
  replace HX := hid_mk hx
  replace HS := hid_mk hs
  clear hp hx hs
  dsimp only
  go_wp2_with fail
  obtain ⟨q7, hq7⟩ : ∃ q, w6.heap.size = q := ⟨_, rfl⟩
  simp only [hq7]
  refine gen_callsT (fun W => VrB W q7 10 3 ∧ Ext w6 W) ⟨by rw [← hq7]; exact VrB.new w6 10 3, by (repeat (first | exact Ext.refl _ | apply Ext.drew_left | apply Ext.drew | apply Ext.alloc))⟩ ?_
  rintro W ⟨hv, hxW⟩
  refine (stGet_any kA (HS.out.ext hxW)).mono ?_
  rintro r w7 ⟨rfl, hx7⟩
  rw [sgv]
  have HQ7 := hid_mk (show sb < q7 ∧ mb < q7 ∧ tb < q7 by have := HS.out.lt; have := HS.out.mlt; have := HS.out.tlt; omega)
  have HV7 := hid_mk (hv.ext hx7)
  replace hxW := Ext.trans _ _ _ hxW hx7
  replace HV3 := hid_mk (HV3.out.ext hxW)
  replace HX := hid_mk (Ext.trans _ _ _ HX.out hxW)
  replace HS := hid_mk (HS.out.ext hxW)
  clear hv hxW hx7 hq7
  go_wp2_with fail
  obtain ⟨q9, hq9⟩ : ∃ q, w7.heap.size = q := ⟨_, rfl⟩
  simp only [hq9]
  refine gen_callsT (fun W => EnB4 W q9 xA5 ∧ Ext w7 W) ⟨by rw [← hq9]; exact EnB4.new w7 xA5, by (repeat (first | exact Ext.refl _ | apply Ext.drew_left | apply Ext.drew | apply Ext.alloc))⟩ ?_
  rintro W ⟨hv, hxW⟩
  refine (stFold_any kX kA false (HS.out.ext hxW)).mono ?_
  rintro r w8 ⟨rfl, hp⟩
  rw [fd_bad, sr1]
  replace hp := fold_post hp
  have HQ9 := hid_mk (show sb < q9 ∧ mb < q9 ∧ tb < q9 by have := HS.out.lt; have := HS.out.mlt; have := HS.out.tlt; omega)
  have HV9 := hid_mk (hv.xl hp.1 (by have := HQ9.out; simp; omega))
  replace HV3 := hid_mk ((HV3.out.ext hxW).xl hp.1 (by have := HQ3.out; simp; omega))
  replace HV7 := hid_mk ((HV7.out.ext hxW).xl hp.1 (by have := HQ7.out; simp; omega))
  replace HX := hid_mk (Ext.trans _ _ _ HX.out hxW)
  clear hv hxW hq9
  obtain ⟨hx, n', hs⟩ := post_new HX.out HB.out hp
  replace HX := hid_mk hx
  replace HS := hid_mk hs
  clear hp hx hs
  dsimp only
  go_wp2_with fail
  refine gen_callsT (fun W => Ext w8 W) (by (repeat (first | exact Ext.refl _ | apply Ext.drew_left | apply Ext.drew | apply Ext.alloc))) ?_
  intro W hxW
  refine (stFold_any kB kC false (HS.out.ext hxW)).mono ?_
  rintro r w9 ⟨rfl, hp⟩
  obtain ⟨t0, t1, ht⟩ := fd_one
  rw [ht, sr2]
  clear ht
  replace hp := fold_post hp
  replace HV3 := hid_mk ((HV3.out.ext hxW).xl hp.1 (by have := HQ3.out; simp; omega))
  replace HV7 := hid_mk ((HV7.out.ext hxW).xl hp.1 (by have := HQ7.out; simp; omega))
  replace HV9 := hid_mk ((HV9.out.ext hxW).xl hp.1 (by have := HQ9.out; simp; omega))
  replace HX := hid_mk (Ext.trans _ _ _ HX.out hxW)
  clear hxW
  obtain ⟨hx, n', hs⟩ := post_new HX.out HB.out hp
  replace HX := hid_mk hx
  replace HS := hid_mk hs
  clear hp hx hs
  dsimp only
  have u0 := HV3.out.c0
  have u1 := HV3.out.c1
  have g0 := HV3.out.f 0
  have g1 := HV3.out.f 1
  have ul := HV3.out.lt
  have z0 := HV7.out.c0
  have z1 := HV7.out.c1
  have y0 := HV7.out.f 0
  have y1 := HV7.out.f 1
  have zl := HV7.out.lt
  have a0 := HV9.out.c0
  have a1 := HV9.out.c1
  have a2 := HV9.out.c2
  have a3 := HV9.out.c3
  have a4 := HV9.out.c4
  have f0 := HV9.out.f 0
  have f1 := HV9.out.f 1
  have f2 := HV9.out.f 2
  have f3 := HV9.out.f 3
  have f4 := HV9.out.f 4
  have al := HV9.out.lt
  go_wp2_with fail
  refine gen_callsT (fun W => Ext w9 W) (by (repeat (first | exact Ext.refl _ | apply Ext.drew_left | apply Ext.drew | apply Ext.alloc))) ?_
  intro W hxW
  replace HX := hid_mk (Ext.trans _ _ _ HX.out hxW)
  refine (stLen_any (HS.out.ext hxW)).mono ?_
  rintro r w10 ⟨rfl, rfl⟩
  have h3 : ((sS5.l.length : Nat) : Int) = 3 := rfl
  rw [h3]
  clear h3
  go_wp2_with fail
  refine (stClock_any (HS.out.ext hxW)).mono ?_
  rintro r w11 ⟨rfl, rfl⟩
  go_wp2
  go_ret
  exact ⟨rfl, HX.out⟩
/-- What the law StoreNew says, walked. -/
theorem storeNew_walk (node : Int) (w0 : World) (hl : LanesAt w0) : Calls Tryd.prog 4 #[.int .i64 node] w0 fun e w' => e = .returned (.bool true) ∧ Ext w0 w' := by
  have HL := hid_mk hl
  clear hl
  go_enter Tryd.func4, Tryd.ntmps4
  go_wp2_with fail
  refine (shown8_any w0 HL.out).mono ?_
  rintro r w1 ⟨rfl, hx1⟩
  have HX1 := hid_mk hx1
  clear hx1
  go_wp2_with fail
  refine (stNew_any node (HL.out.ext HX1.out)).mono ?_
  rintro r w2 (⟨h1, h2, sb, mb, tb, n1, rfl, hb, hs, hx⟩ | ⟨h, rfl, hx⟩)
  · have h3 : ¬ node < 0 := by omega
    have h4 : ¬ 8 ≤ node := by omega
    have HX := hid_mk (Ext.trans _ _ _ HX1.out hx)
    have HS := hid_mk hs
    clear hb hs hx h1 h2
    go_wp2_with fail
    refine (stNode_any HS.out).mono ?_
    rintro r w3 ⟨rfl, rfl⟩
    go_wp2_with fail
    refine (stClock_any HS.out).mono ?_
    rintro r w3 ⟨rfl, rfl⟩
    go_wp2_with fail
    refine (stLen_any HS.out).mono ?_
    rintro r w3 ⟨rfl, rfl⟩
    go_wp2
    go_ret
    exact ⟨rfl, HX.out⟩
  · have HX := hid_mk (Ext.trans _ _ _ HX1.out hx)
    clear hx
    by_cases h1 : node < 0
    · clear h
      go_wp2
      go_ret
      exact ⟨rfl, HX.out⟩
    · have h2 : 8 ≤ node := by omega
      clear h
      go_wp2
      go_ret
      exact ⟨rfl, HX.out⟩
end Go.Proofs.YtokcgnbjkbhmiaaDoor
