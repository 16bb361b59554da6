/- A join that counts; All and Span; the document's bound. -/
import Derived.Test.YtgglbohcnlcagaaTU
import Derived.Test.YtgglbohcnlcagaaVA
namespace Go.Proofs.Ytgglbohcnlcagaa
open Go.RowKit
set_option maxHeartbeats 2000000
set_option maxRecDepth 100000
set_option linter.unusedSimpArgs false
set_option linter.unusedVariables false
theorem en_TcostsC : Enters Try.prog 60 := ⟨_, Try.func60, by kernel_rfl, rfl⟩
theorem en_TAll1 : Enters Try.prog 63 := ⟨_, Try.func63, by kernel_rfl, rfl⟩
theorem en_TSpan1 : Enters Try.prog 64 := ⟨_, Try.func64, by kernel_rfl, rfl⟩
theorem en_RBound : Enters Try.prog 65 := ⟨_, Try.func65, by kernel_rfl, rfl⟩

theorem ext_set' {w w' : World} (h : Ext w w') {b o : Nat} {u : Value} (hp : w.heap.size ≤ b) : Ext w (w'.setCell ⟨b, o, none⟩ u) := Ext.of (Below.setCell h.below hp u)
/-- So many joins were counted in a variable. -/
def Counts (jb : Nat) (n : Nat) (w : World) : Prop := w.cell? ⟨jb, 0, none⟩ = some (.int .i64 (wrap64 (n : Int))) ∧ w.frozen? ⟨jb, 0, none⟩ = false
theorem wrap64_twice (n : Int) : wrap64 (wrap64 n + 1) = wrap64 (n + 1) := by unfold wrap64; omega
theorem wrap64_diff (n j : Nat) (hj : j ≤ 4294967296) : wrap64 (wrap64 ((n + j : Nat) : Int) - wrap64 (n : Int)) = (j : Int) := by unfold wrap64; omega
theorem cjoin_any (a b : Int × Int) (w : World) (jb n : Nat) (h : Counts jb n w) :
    Calls Try.prog 60 #[.agg #[.int .u64 a.1, .int .u64 a.2], .agg #[.int .u64 b.1, .int .u64 b.2], .pointer (some ⟨jb, 0, none⟩)] w fun e w' => e = .returned (.agg #[.int .u64 (jm a b).1, .int .u64 (jm a b).2]) ∧ Xt (some jb) w w' ∧ Counts jb (n + 1) w' := by
  obtain ⟨h0, h1⟩ := h
  have hjl := cell_lt h0
  obtain ⟨x, hx⟩ : ∃ x, wrap64 (n : Int) = x := ⟨_, rfl⟩
  obtain ⟨y, hy⟩ : ∃ y, wrap64 (x + 1) = y := ⟨_, rfl⟩
  have hxy : wrap64 ((n + 1 : Nat) : Int) = y := by rw [← hy, ← hx, wrap64_twice]; rfl
  rw [hx] at h0
  have HXY := hid_mk hxy
  clear hx hxy
  have hj1 : ¬ jb = w.heap.size := by omega
  have hj2 : ¬ jb = w.heap.size + 1 := by omega
  have hj3 : ¬ jb = w.heap.size + 1 + 1 := by omega
  have hj4 : jb < w.heap.size + 1 := by omega
  have hj5 : jb < w.heap.size + 1 + 1 := by omega
  have hj6 : jb < w.heap.size + 1 + 1 + 1 := by omega
  go_enter Try.func60, Try.ntmps60
  go_wp2_with fail
  have hsz : (((((w.setCell ⟨jb, 0, none⟩ (.int .i64 y)).alloc (.cells #[.int .u64 a.1, .int .u64 a.2] 62)).alloc (.cells #[.int .u64 b.1, .int .u64 b.2] 62)).alloc (.cells #[.int .u64 0, .int .u64 0] 62)).heap.size) = w.heap.size + 1 + 1 + 1 := by simp [World.setCell]
  have hx9 : Xt (some jb) w ((((w.setCell ⟨jb, 0, none⟩ (.int .i64 y)).alloc (.cells #[.int .u64 a.1, .int .u64 a.2] 62)).alloc (.cells #[.int .u64 b.1, .int .u64 b.2] 62)).alloc (.cells #[.int .u64 0, .int .u64 0] 62)) := ((Xt.setAt.alloc _).alloc _).alloc _
  have k0 : (((((w.setCell ⟨jb, 0, none⟩ (.int .i64 y)).alloc (.cells #[.int .u64 a.1, .int .u64 a.2] 62)).alloc (.cells #[.int .u64 b.1, .int .u64 b.2] 62)).alloc (.cells #[.int .u64 0, .int .u64 0] 62)).cell? ⟨jb, 0, none⟩) = some (.int .i64 y) := by go_simp
  have k1 : (((((w.setCell ⟨jb, 0, none⟩ (.int .i64 y)).alloc (.cells #[.int .u64 a.1, .int .u64 a.2] 62)).alloc (.cells #[.int .u64 b.1, .int .u64 b.2] 62)).alloc (.cells #[.int .u64 0, .int .u64 0] 62)).frozen? ⟨jb, 0, none⟩) = false := by go_simp
  have q0 : (((((w.setCell ⟨jb, 0, none⟩ (.int .i64 y)).alloc (.cells #[.int .u64 a.1, .int .u64 a.2] 62)).alloc (.cells #[.int .u64 b.1, .int .u64 b.2] 62)).alloc (.cells #[.int .u64 0, .int .u64 0] 62)).cell? ⟨w.heap.size + 1 + 1, 0, none⟩) = some (.int .u64 0) := by go_simp
  have q1 : (((((w.setCell ⟨jb, 0, none⟩ (.int .i64 y)).alloc (.cells #[.int .u64 a.1, .int .u64 a.2] 62)).alloc (.cells #[.int .u64 b.1, .int .u64 b.2] 62)).alloc (.cells #[.int .u64 0, .int .u64 0] 62)).cell? ⟨w.heap.size + 1 + 1, 1, none⟩) = some (.int .u64 0) := by go_simp
  have q2 : ∀ o, (((((w.setCell ⟨jb, 0, none⟩ (.int .i64 y)).alloc (.cells #[.int .u64 a.1, .int .u64 a.2] 62)).alloc (.cells #[.int .u64 b.1, .int .u64 b.2] 62)).alloc (.cells #[.int .u64 0, .int .u64 0] 62)).frozen? ⟨w.heap.size + 1 + 1, o, none⟩) = false := by intro o; go_simp
  generalize (((w.setCell ⟨jb, 0, none⟩ (.int .i64 y)).alloc (.cells #[.int .u64 a.1, .int .u64 a.2] 62)).alloc (.cells #[.int .u64 b.1, .int .u64 b.2] 62)).alloc (.cells #[.int .u64 0, .int .u64 0] 62) = W9 at *
  obtain ⟨q, hq⟩ : ∃ q, w.heap.size + 1 + 1 = q := ⟨_, rfl⟩
  rw [hq] at q0 q1 q2 hsz
  simp only [hq]
  have hjq : jb ≠ q := by omega
  have hwq : w.heap.size ≤ q := by omega
  have HF := hid_mk (And.intro hx9 (And.intro k0 (And.intro k1 (And.intro q0 (And.intro q1 (And.intro q2 (And.intro hjq hwq)))))))
  clear hx9 k0 k1 q0 q1 q2 hj1 hj2 hj3 hj4 hj5 hj6 hjq hwq hq h0 h1 hjl hsz
  refine (rjoin_any a b W9).mono ?_
  rintro e w' ⟨rfl, hx⟩
  generalize hJ : jm a b = J at *
  have HX := hid_mk hx
  obtain ⟨-, k0, k1, q0, q1, q2, hjq, -⟩ := HF.out
  have c0 := cell_ext hx q0
  have c1 := cell_ext hx q1
  have hql := cell_lt c0
  have f0 : w'.frozen? ⟨q, 0, none⟩ = false := (Xt.of hx : Xt none _ _).fz q0 (by simp) (q2 0)
  have f1 : w'.frozen? ⟨q, 1, none⟩ = false := (Xt.of hx : Xt none _ _).fz q1 (by simp) (q2 1)
  clear k0 k1 q0 q1 q2 hx hjq
  go_wp2
  refine bodyPost_ret (v := .agg #[.int .u64 J.1, .int .u64 J.2]) (by unfold results; rw [Try.results60]; go_simp) rfl ?_
  obtain ⟨hx9, k0, k1, q0, q1, q2, hjq, hwq⟩ := HF.out
  refine ⟨by rw [hJ], ((Xt.trans _ _ _ hx9 (Xt.of HX.out)).set hwq).set hwq, ?_, ?_⟩
  · rw [HXY.out]
    exact (tset_ne hjq).trans ((tset_ne hjq).trans (cell_ext HX.out k0))
  · exact tset_fz (tset_fz ((Xt.of HX.out : Xt none _ _).fz k0 (by simp) k1))
theorem jokC (jb : Nat) : JoinOK Try.prog (fun s : Int × Int => .agg #[.int .u64 s.1, .int .u64 s.2]) (some jb) (Counts jb) (fun _ => 0) 0 jm 60 #[.pointer (some ⟨jb, 0, none⟩)] where
  enters := en_TcostsC
  call a b w n hk _ := cjoin_any a b w jb n hk
  low n w hk s hs := by cases hs; exact cell_lt hk.1
  keep n w w' hk h := by
    have hb := h jb rfl
    unfold Counts World.cell? World.frozen? at hk ⊢
    simp only [hb]
    exact hk
  wtJ _ _ := Nat.le_refl _
def lgf (n : Nat) : Nat → Nat → Nat
  | 0, k => k
  | f + 1, k => if 2 ^ k < n + 1 then lgf n f (k + 1) else k
theorem lgf_ok (n : Nat) : ∀ f k, n + 1 ≤ 2 ^ (k + f) → n + 1 ≤ 2 ^ (lgf n f k)
  | 0, k, h => h
  | f + 1, k, h => by
    unfold lgf
    split
    · exact lgf_ok n f (k + 1) (by rw [show k + 1 + f = k + (f + 1) by omega]; exact h)
    · rename_i hc; omega
def lg (n : Nat) : Nat := lgf n 62 0
theorem lg_ok {n : Nat} (hn : n ≤ 4398046511104) : n + 1 ≤ 2 ^ (lg n) := by
  refine lgf_ok n 62 0 ?_
  rw [show (2 : Nat) ^ (0 + 62) = 4611686018427387904 by decide]
  omega
theorem lgf_le (n : Nat) : ∀ f k, lgf n f k ≤ k + f
  | 0, k => Nat.le_refl _
  | f + 1, k => by
    unfold lgf
    split
    · have := lgf_le n f (k + 1); omega
    · omega
theorem lg_le (n : Nat) : lg n ≤ 62 := by have := lgf_le n 62 0; unfold lg; omega
theorem bound_any (n : Nat) (hn : n ≤ 4398046511104) (w : World) :
    Calls Try.prog 65 #[.int .i64 (n : Int)] w fun e w' => e = .returned (.int .i64 (16 * (1 + (lg n : Int)))) ∧ w = w' := by
  obtain ⟨L, hL⟩ : ∃ L, lg n = L := ⟨_, rfl⟩
  rw [hL]
  have HL := hid_mk hL
  clear hL
  go_enter Try.func65, Try.ntmps65
  go_wp2_with fail
  have e1 : wrap64 ((n : Int) + 1) = (n : Int) + 1 := w64in (by omega)
  go_loop [3] (fun x => ∃ k : Nat, k ≤ 62 ∧ x = .int .i64 (k : Int) ∧ lgf n (62 - k) k = L) (fun x => 62 - (intOf x).toNat)
  case atStart => exact ⟨0, by omega, rfl, HL.out⟩
  case round =>
    obtain ⟨k, hk, rfl, hg⟩ := hrel
    have HG := hid_mk hg
    clear hg
    by_cases hlt : k < 62
    · have hk1 : (k : Int) < 62 := by omega
      have hm : 2 ^ k ≤ 2 ^ 62 := Nat.pow_le_pow_right (by omega) hk
      have HS := hid_mk (show lgf n (62 - k) k = if 2 ^ k < n + 1 then lgf n (62 - (k + 1)) (k + 1) else k by
        rw [show 62 - k = (62 - (k + 1)) + 1 by omega]; rfl)
      obtain ⟨p, hp⟩ : ∃ p : Nat, 2 ^ k = p := ⟨_, rfl⟩
      have e0 : ((2 : Int) ^ k) = (p : Int) := by rw [← hp]; simp
      have e2 : wrap64 ((2 : Int) ^ k) = (p : Int) := by rw [e0]; exact w64in (by rw [show (2 : Nat) ^ 62 = 4611686018427387904 by decide, hp] at hm; omega)
      have HP := hid_mk hp
      clear e0 hm hp
      by_cases hq : (p : Int) < (n : Int) + 1
      · go_wp2
        go_round
        case rel => exact ⟨k + 1, by omega, rfl, by rw [← HG.out, HS.out, if_pos (by rw [HP.out]; clear e1 e2; omega)]⟩
        case measure => clear e1 e2; simp [intOf]; omega
      · have HKL := hid_mk (show k = L by rw [← HG.out, HS.out, if_neg (by rw [HP.out]; clear e1 e2; omega)])
        go_wp2
        go_ret
        exact ⟨by rw [← HKL.out]; rfl, rfl⟩
    · obtain rfl : k = 62 := by omega
      have HKL := hid_mk (show 62 = L from HG.out)
      go_wp2
      go_ret
      exact ⟨by rw [← HKL.out]; rfl, rfl⟩
theorem span_any {J : S1 → S1 → S1} {z zz : S1} {tb : Nat} {f : FuncId} {caps : Array Value} {Sp : Option Nat} {pv : Value} {T : T1} {w : World} (i j : Int) (ht : TreeW1 w tb zz f caps pv) (h : IsTree1 Sp J z w pv T) :
    Calls Try.prog 64 #[.pointer (some ⟨tb, 0, none⟩), .int .i64 i, .int .i64 j] w fun e w' => (∃ g xs, e = .returned (.func g #[] xs)) ∧ Ext w w' := by
  have HT := hid_mk ht
  have H := hid_mk h
  obtain ⟨⟨t0, t1, t2, t3⟩, f0⟩ := ht
  have htl := cell_lt t0
  obtain ⟨pa, rfl, -⟩ := h.ptr
  obtain ⟨mi, hmi⟩ : ∃ mi : Int, (if i < 0 then (0 : Int) else i) = mi := ⟨_, rfl⟩
  obtain ⟨mj, hmj⟩ : ∃ mj : Int, (if (T.size : Int) < j then (T.size : Int) else j) = mj := ⟨_, rfl⟩
  clear h
  go_enter Try.func64, Try.ntmps64
  go_wp2_with fail
  refine gen_code (fun W => (W.cell? ⟨w.heap.size, 0, none⟩ = some (.int .i64 i) ∧ W.cell? ⟨w.heap.size + 1, 0, none⟩ = some (.int .i64 j) ∧ W.cell? ⟨w.heap.size + 1 + 1, 0, none⟩ = some (.pointer pa)) ∧
    (W.frozen? ⟨w.heap.size, 0, none⟩ = false ∧ W.frozen? ⟨w.heap.size + 1, 0, none⟩ = false) ∧ Ext w W) ⟨⟨by go_simp, by go_simp, by go_simp⟩, ⟨by go_simp, by go_simp⟩, by (repeat (first | exact Ext.refl _ | apply Ext.drew_left | apply Ext.drew | apply Ext.alloc))⟩ ?_
  rintro W ⟨⟨b0, b1, b2⟩, ⟨f1, f2⟩, hxW⟩
  obtain ⟨q4, h4⟩ : ∃ q, w.heap.size = q := ⟨_, rfl⟩
  obtain ⟨q5, h5⟩ : ∃ q, w.heap.size + 1 = q := ⟨_, rfl⟩
  obtain ⟨q7, h7⟩ : ∃ q, w.heap.size + 1 + 1 = q := ⟨_, rfl⟩
  rw [h4] at b0 f1
  rw [h5] at b1 f2
  rw [h7] at b2
  have h7' : q5 + 1 = q7 := by omega
  have h5' : q4 + 1 = q5 := by omega
  simp only [h7, h5, h4, h7', h5']
  have g1 := cell_lt b0
  have g2 := cell_lt b1
  have g3 := cell_lt b2
  have d1 : q4 ≠ q5 := by omega
  have d2 : q4 ≠ q7 := by omega
  have d3 : q5 ≠ q7 := by omega
  have HQ := hid_mk (show w.heap.size ≤ q4 ∧ w.heap.size ≤ q5 by omega)
  replace H := hid_mk (H.out.none.xt (Xt.of hxW : Xt none _ _))
  have HXW := hid_mk hxW
  clear h4 h5 h7 h5' h7' t0 t1 t2 t3 f0 htl hxW
  go_wp2_with fail
  refine wp_region_held_plan (Xt (some q4)) (fun i => i != 7) (.quiet 2 (.quiet 3 (.quiet 4 (.quiet 5 (.alt 0 (.quiet 1 (.alt 6 (.alt 7 .done .stop) .stop)) .stop))))) (by kernel_rfl) (by kernel_rfl) Xt.refl Xt.trans (by intro c a w d v h; cases d <;> exact h) (fun ops HO => ?_)
  refine plan_read _ (hi_of HO rfl) rfl (fun w' hE => by (repeat (with_reducible replace hE := Xt.unD hE)); have hcE := hE.hc; clear hE; go_simp; rfl) ?_
  simp only [Act.put, List.setIfInBounds_toArray, List.set_cons_succ, List.set_cons_zero]
  refine plan_read _ (hi_of HO rfl) rfl (fun w' hE => by (repeat (with_reducible replace hE := Xt.unD hE)); have hcE := hE.hc; clear hE; go_simp; rfl) ?_
  simp only [Act.put, List.setIfInBounds_toArray, List.set_cons_succ, List.set_cons_zero]
  refine plan_pure _ en_Tmany1 (hi_of HO rfl) rfl rfl (by go_simp; rfl) (fun w' hE => by exact many1_any (H.out.away (Sq := some q4) (by rintro b e k' v' s' sm pl pr n' h' hN; cases e; have e1 := b0.symm.trans hN.c0; cases e1) (Xt.unD hE))) ?_
  simp only [Act.put, List.setIfInBounds_toArray, List.set_cons_succ, List.set_cons_zero]
  refine plan_read _ (hi_of HO rfl) rfl (fun w' hE => by (repeat (with_reducible replace hE := Xt.unD hE)); have hcE := hE.hc; clear hE; go_simp; rfl) ?_
  simp only [Act.put, List.setIfInBounds_toArray, List.set_cons_succ, List.set_cons_zero]
  refine plan_loud1 (hi_of HO rfl) rfl ?_
  go_simp
  refine ⟨by (repeat (first | exact Xt.refl _ | apply Xt.drew_left | apply Xt.drew | apply Xt.alloc)), ?_⟩
  refine plan_read _ (hi_of HO rfl) rfl (fun w' hE => by (repeat (with_reducible replace hE := Xt.unD hE)); have hcE := hE.hc; clear hE; go_simp; rfl) ?_
  simp only [Act.put, List.setIfInBounds_toArray, List.set_cons_succ, List.set_cons_zero]
  refine plan_loud1 (hi_of HO rfl) rfl ?_
  go_simp
  refine ⟨Xt.setAt, ?_⟩
  refine plan_loud1 (hi_of HO rfl) rfl ?_
  go_simp
  skip
  refine plan_done ?fin101
  go_wp2
  go_ret
  exact ⟨⟨_, _, rfl⟩, Ext.drew (ext_set' (ext_set' HXW.out HQ.out.1) HQ.out.2)⟩
theorem all_any {J : S1 → S1 → S1} {z zz : S1} {tb : Nat} {f : FuncId} {caps : Array Value} {Sp : Option Nat} {pv : Value} {T : T1} {w : World} (ht : TreeW1 w tb zz f caps pv) (h : IsTree1 Sp J z w pv T) :
    Calls Try.prog 63 #[.pointer (some ⟨tb, 0, none⟩)] w fun e w' => (∃ g xs, e = .returned (.func g #[] xs)) ∧ Ext w w' := by
  have HT := hid_mk ht
  have H := hid_mk h
  clear ht h
  go_enter Try.func63, Try.ntmps63
  go_wp2_with fail
  refine (len1_any HT.out.at_ H.out).mono ?_
  rintro e w1 ⟨rfl, rfl⟩
  go_wp2_with fail
  refine (span_any 0 (T.size : Int) HT.out H.out).mono ?_
  rintro e w2 ⟨⟨g, xs, rfl⟩, hx⟩
  have HX := hid_mk hx
  clear hx
  go_wp2
  go_ret
  exact ⟨⟨_, _, rfl⟩, by
    have h := HX.out
    first | exact h.alloc _ | exact ext_set' (h.alloc _) h.below.size⟩
end Go.Proofs.Ytgglbohcnlcagaa
