/- Joins counted: the walk of TreeCosts. -/
import Derived.Test.YtgglbohcnlcagaaVC
namespace Go.Proofs.Ytgglbohcnlcagaa
open Go.RowKit
set_option maxHeartbeats 2000000
set_option maxRecDepth 100000
set_option linter.unusedSimpArgs false
set_option linter.unusedVariables false

theorem eql_fn (w : World) (g : Fn) (x : Array Value) : (binOp .eql 113 (.func g #[] x) .nilFunc).run Try.prog w = .ok (.bool false) w := by kernel_rfl
attribute [local go_sem ↓] eql_fn
theorem treeCosts_walk (L : List POp) (v0 : Value) (W : World) (hL : OpsSl W v0 L) :
    Calls Try.prog 12 #[v0] W fun e w' => e = .returned (.bool true) ∧ Ext W w' := by
  obtain ⟨a, c, rfl, hlc, hl42, hok, hcells⟩ := hL
  have HC := hid_mk hcells
  have HLC := hid_mk (And.intro hlc hl42)
  have HOK := hid_mk hok
  clear hcells hlc hl42 hok
  go_enter Try.func12, Try.ntmps12
  go_wp2_with fail
  refine (shown_any _).mono ?_
  rintro e w1 ⟨rfl, hx⟩
  have HX := hid_mk hx
  clear hx
  go_wp2_with fail
  have hcj : Counts w1.heap.size 0 (w1.alloc (.cells #[.int .i64 0] 3)) := by
    constructor
    · show _ = some (Value.int .i64 (wrap64 0))
      rw [show wrap64 0 = 0 from w64in (by omega)]
      go_simp
    · go_simp
  have HX0 := hid_mk (Ext.alloc (Ext.refl w1) (.cells #[.int .i64 0] 3))
  have hjl := cell_lt hcj.1
  generalize w1.alloc (.cells #[.int .i64 0] 3) = w2 at *
  have HCJ := hid_mk hcj
  obtain ⟨jb, hjb⟩ : ∃ jb, w1.heap.size = jb := ⟨_, rfl⟩
  rw [hjb] at hjl HCJ
  simp only [hjb]
  have HJB := hid_mk (show W.heap.size ≤ jb by have := HX.out.below.size; omega)
  clear hcj hjb
  refine (rzero_any w2).mono ?_
  rintro e w3 ⟨rfl, hx⟩
  have hjl3 : jb < w3.heap.size := Nat.lt_of_lt_of_le hjl hx.below.size
  replace HX := hid_mk (Ext.trans _ _ _ HX.out (Ext.trans _ _ _ HX0.out hx))
  replace HCJ := hid_mk ((jokC jb).kext HCJ.out hx)
  clear HX0 hx hjl
  go_wp2_with fail
  refine (new1_any zm 60 #[.pointer (some ⟨jb, 0, none⟩)] w3).mono ?_
  rintro e w4 ⟨tb, rfl, hb, hT, hx⟩
  have HT : Hid (CTree w4 tb jb .nil 0) := hid_mk ⟨⟨_, hT, rfl⟩, (jokC jb).kext HCJ.out hx, by omega⟩
  have HTB := hid_mk (show W.heap.size ≤ tb by have := HX.out.below.size; omega)
  replace HX := hid_mk (Ext.trans _ _ _ HX.out hx)
  clear hT hx hb hjl3 HCJ
  go_wp2_with fail
  go_loopw [18] (fun x wr => ∃ m : Nat, m ≤ L.length ∧ x = .int .i64 (m : Int) ∧ ∃ (T : T1) (n : Nat), CTree wr tb jb T n ∧ T.Even ∧ T.size ≤ m ∧ Ext W wr) (fun x _ => L.length - (intOf x).toNat)
  case atStart => exact ⟨0, Nat.zero_le _, rfl, .nil, 0, HT.out, trivial, Nat.le_refl _, HX.out⟩
  case round =>
    clear HT HX
    obtain ⟨m, hm, rfl, T, n, hT, hev, hsz, hx⟩ := hrel
    have HT := hid_mk hT
    have HEV := hid_mk hev
    have HXR := hid_mk hx
    clear hT hev hx
    by_cases hlt : m < L.length
    · obtain ⟨b, o, rfl, hops⟩ := HC.out (by omega)
      have hop := (hops m hlt).xt (Xt.of HXR.out : Xt none _ _) (by simp)
      have hpok := HOK.out L[m] (List.getElem_mem hlt)
      clear hops
      generalize L[m] = p at *
      obtain ⟨r0, r1, r2, r3, r4, r5, r6, r7⟩ := hop
      have hbl := cell_lt r0
      obtain ⟨j0, j1⟩ := HT.out.cnt
      have hjl := cell_lt j0
      have hm63 : (m : Int) < (L.length : Int) := by omega
      have hm0 : (0 : Int) ≤ (m : Int) := by omega
      obtain ⟨x, hx⟩ : ∃ x, wrap64 (n : Int) = x := ⟨_, rfl⟩
      rw [hx] at j0
      have HXN := hid_mk hx
      obtain ⟨κ, hκ⟩ : ∃ κ, am p.kind 6 = κ := ⟨_, rfl⟩
      have hκ6 : κ = 0 ∨ κ = 1 ∨ κ = 2 ∨ κ = 3 ∨ κ = 4 ∨ κ = 5 := by
        have h1 := Int.emod_nonneg p.kind (show (6 : Int) ≠ 0 by omega)
        have h2 := Int.emod_lt_of_pos p.kind (show (0 : Int) < 6 by omega)
        unfold am at hκ
        rw [if_neg (by omega)] at hκ
        omega
      have HK := hid_mk hκ
      have HK6 := hid_mk hκ6
      have HPO := hid_mk hpok
      have HSZ := hid_mk (show T.size ≤ m ∧ m < L.length from ⟨hsz, hlt⟩)
      have hw1 : wrap64 ((m : Int) + 1) = (m : Int) + 1 := w64in (by have := HLC.out.2; omega)
      have HW1 := hid_mk hw1
      clear hx hκ hκ6 hpok hsz hw1
      go_wp2_with fail
      refine (among_any p.kind 6 HPO.out.kind (by omega) _).mono ?_
      rintro e w5 ⟨rfl, rfl⟩
      rw [HK.out]
      refine gen_k (fun W5 => OpAt W5 wr.heap.size 0 p ∧ Ext wr W5) ⟨⟨by go_simp, by go_simp, by go_simp, by go_simp, by go_simp, by go_simp, by go_simp, by go_simp⟩, by (repeat (first | exact Ext.refl _ | apply Ext.drew_left | apply Ext.drew | apply Ext.alloc))⟩ ?_
      rintro W5 ⟨ho, hx5⟩
      have HT5 := hid_mk (HT.out.ext hx5)
      have HX5 := hid_mk (Ext.trans _ _ _ HXR.out hx5)
      obtain ⟨o0, o1, o2, o3, o4, o5, o6, o7⟩ := ho
      simp only [Nat.zero_add] at o0 o1 o2 o3 o4 o5 o6 o7
      have hol := cell_lt o0
      clear r0 r1 r2 r3 r4 r5 r6 r7 hbl j0 j1 hjl hx5 hm63 hm0
      rcases HK6.out with rfl | rfl | rfl | rfl | rfl | rfl
      · go_wp2_with fail
        refine (cput p.key p.v p.s HT5.out (by have := HSZ.out; have := HLC.out.2; omega)).mono ?_
        rintro e w6 ⟨⟨x6, rfl⟩, j, hT6, hj, hx6⟩
        have hpe := Tr.put_even p.key p.v p.s T HEV.out
        have hps := Tr.put_size p.key p.v p.s T
        have hpl := Tr.put_size_le p.key p.v p.s T
        generalize T.put p.key p.v p.s = T' at *
        have HX6 := hid_mk (Xl.ext HX5.out hx6 (by intro q hq; simp only [List.mem_cons, List.not_mem_nil, or_false] at hq; rcases hq with rfl | rfl; exact HTB.out; exact HJB.out))
        have HT6 := hid_mk hT6
        have HT'S := hid_mk (show T'.size ≤ m + 1 ∧ T'.size ≤ 4398046511104 by have := HSZ.out; have := HLC.out.2; omega)
        have hcst := Tr.cost_ok (Nat.le_trans (Tr.even_size T HEV.out) (Nat.succ_le_succ hpl)) (lg_ok HT'S.out.2)
        have hl62 := lg_le T'.size
        have HEV' := hid_mk hpe.1
        obtain ⟨y, hy⟩ : ∃ y, wrap64 ((n + j : Nat) : Int) = y := ⟨_, rfl⟩
        have hsub : wrap64 (y - x) = (j : Int) := by rw [← hy, ← HXN.out]; exact wrap64_diff n j (by omega)
        have hsubI : IntKind.i64.wrap (y - x) = (j : Int) := by
          have h := hsub
          unfold wrap64 at h
          rw [IntKind.wrap_i64]
          exact h
        have HG1 := hid_mk (show decide ((16 : Int) * (1 + (lg T'.size : Int)) < IntKind.i64.wrap (y - x)) = false by rw [hsubI]; exact decide_eq_false (by clear hsub hsubI hy; omega))
        clear o0 o1 o2 o3 o4 o5 o6 o7 hol HT5 HX5 hx6 hT6 hcst hpe hps hpl hj hl62
        obtain ⟨k0, k1⟩ := HT6.out.cnt
        have hkl := cell_lt k0
        rw [hy] at k0
        clear hy hsub hsubI
        go_wp2_with fail
        refine wp_region_held_below (fun _ => true) (.quiet 0 (.quiet 1 (.quiet 2 (.quiet 3 (.quiet 4 (.quiet 5 (.quiet 6 (.quiet 7 (.quiet 8 (.quiet 9 (.quiet 10 (.quiet 11 (.quiet 12 (.quiet 13 (.quiet 14 (.quiet 15 (.quiet 16 (.quiet 17 (.quiet 18 .done))))))))))))))))))) (by kernel_rfl) (by kernel_rfl) (by intro c a w d v h; cases d <;> exact h) (fun ops HO => ?_)
        refine plan_read _ (hi_of HO rfl) rfl (fun w' hE => by (repeat (with_reducible replace hE := Ext.unD hE)); have hcE := hE.hc; clear hE; go_simp; rfl) ?_
        simp only [Act.put, List.setIfInBounds_toArray, List.set_cons_succ, List.set_cons_zero]
        refine plan_read _ (hi_of HO rfl) rfl (fun w' hE => by (repeat (with_reducible replace hE := Ext.unD hE)); have hcE := hE.hc; clear hE; go_simp; rfl) ?_
        simp only [Act.put, List.setIfInBounds_toArray, List.set_cons_succ, List.set_cons_zero]
        refine plan_read _ (hi_of HO rfl) (by rw [HO.out]; rfl) (fun w' hE => by (repeat (with_reducible replace hE := Ext.unD hE)); have hcE := hE.hc; clear hE; go_simp; rfl) ?_
        simp only [Act.put, List.setIfInBounds_toArray, List.set_cons_succ, List.set_cons_zero]
        refine plan_read _ (hi_of HO rfl) (by rw [HO.out]; rfl) (fun w' hE => by (repeat (with_reducible replace hE := Ext.unD hE)); have hcE := hE.hc; clear hE; go_simp; rfl) ?_
        simp only [Act.put, List.setIfInBounds_toArray, List.set_cons_succ, List.set_cons_zero]
        refine plan_read _ (hi_of HO rfl) (by rw [HO.out]; rfl) (fun w' hE => by (repeat (with_reducible replace hE := Ext.unD hE)); have hcE := hE.hc; clear hE; go_simp; rfl) ?_
        simp only [Act.put, List.setIfInBounds_toArray, List.set_cons_succ, List.set_cons_zero]
        refine plan_read _ (hi_of HO rfl) (by rw [HO.out]; rfl) (fun w' hE => by (repeat (with_reducible replace hE := Ext.unD hE)); have hcE := hE.hc; clear hE; go_simp; rfl) ?_
        simp only [Act.put, List.setIfInBounds_toArray, List.set_cons_succ, List.set_cons_zero]
        refine plan_pure _ en_TLen1 (hi_of HO rfl) (by rw [HO.out]; rfl) rfl (by go_simp; rfl) (fun w' hE => by exact (clen (HT6.out.ext (Ext.unD hE)))) ?_
        simp only [Act.put, List.setIfInBounds_toArray, List.set_cons_succ, List.set_cons_zero]
        refine plan_pure _ en_RBound (hi_of HO rfl) (by rw [HO.out]; rfl) rfl (by go_simp; rfl) (fun w' hE => by exact (bound_any T'.size HT'S.out.2 _)) ?_
        simp only [Act.put, List.setIfInBounds_toArray, List.set_cons_succ, List.set_cons_zero]
        refine plan_read _ (hi_of HO rfl) (by rw [HO.out]; rfl) (fun w' hE => by (repeat (with_reducible replace hE := Ext.unD hE)); have hcE := hE.hc; clear hE; go_simp; rw [HG1.out]) ?_
        simp only [Act.put, List.setIfInBounds_toArray, List.set_cons_succ, List.set_cons_zero]
        refine plan_read _ (hi_of HO rfl) rfl (fun w' hE => by (repeat (with_reducible replace hE := Ext.unD hE)); have hcE := hE.hc; clear hE; go_simp; rfl) ?_
        simp only [Act.put, List.setIfInBounds_toArray, List.set_cons_succ, List.set_cons_zero]
        refine plan_read _ (hi_of HO rfl) rfl (fun w' hE => by (repeat (with_reducible replace hE := Ext.unD hE)); have hcE := hE.hc; clear hE; go_simp; rfl) ?_
        simp only [Act.put, List.setIfInBounds_toArray, List.set_cons_succ, List.set_cons_zero]
        refine plan_read _ (hi_of HO rfl) (by rw [HO.out]; rfl) (fun w' hE => by (repeat (with_reducible replace hE := Ext.unD hE)); have hcE := hE.hc; clear hE; go_simp; rfl) ?_
        simp only [Act.put, List.setIfInBounds_toArray, List.set_cons_succ, List.set_cons_zero]
        refine plan_read _ (hi_of HO rfl) (by rw [HO.out]; rfl) (fun w' hE => by (repeat (with_reducible replace hE := Ext.unD hE)); have hcE := hE.hc; clear hE; go_simp; rfl) ?_
        simp only [Act.put, List.setIfInBounds_toArray, List.set_cons_succ, List.set_cons_zero]
        refine plan_read _ (hi_of HO rfl) (by rw [HO.out]; rfl) (fun w' hE => by (repeat (with_reducible replace hE := Ext.unD hE)); have hcE := hE.hc; clear hE; go_simp; rfl) ?_
        simp only [Act.put, List.setIfInBounds_toArray, List.set_cons_succ, List.set_cons_zero]
        refine plan_skip (hi_of HO rfl) (by rw [HO.out]; rfl) ?_
        simp only [Act.put, List.setIfInBounds_toArray, List.set_cons_succ, List.set_cons_zero]
        refine plan_skip (hi_of HO rfl) (by rw [HO.out]; rfl) ?_
        simp only [Act.put, List.setIfInBounds_toArray, List.set_cons_succ, List.set_cons_zero]
        refine plan_skip (hi_of HO rfl) (by rw [HO.out]; rfl) ?_
        simp only [Act.put, List.setIfInBounds_toArray, List.set_cons_succ, List.set_cons_zero]
        refine plan_read _ (hi_of HO rfl) (by rw [HO.out]; rfl) (fun w' hE => by (repeat (with_reducible replace hE := Ext.unD hE)); have hcE := hE.hc; clear hE; go_simp; rfl) ?_
        simp only [Act.put, List.setIfInBounds_toArray, List.set_cons_succ, List.set_cons_zero]
        refine plan_read _ (hi_of HO rfl) rfl (fun w' hE => by (repeat (with_reducible replace hE := Ext.unD hE)); have hcE := hE.hc; clear hE; go_simp; rfl) ?_
        simp only [Act.put, List.setIfInBounds_toArray, List.set_cons_succ, List.set_cons_zero]
        refine plan_done ?fin101
        go_wp2
        go_roundw
        case rel => exact ⟨m + 1, by have := HSZ.out; omega, (by first | exact congrArg (Value.int .i64) HW1.out | rfl), T', n + j, HT6.out.ext (by (repeat (first | exact Ext.refl _ | apply Ext.drew_left | apply Ext.drew | apply Ext.alloc))), HEV'.out, HT'S.out.1, Ext.trans _ _ _ HX6.out (by (repeat (first | exact Ext.refl _ | apply Ext.drew_left | apply Ext.drew | apply Ext.alloc)))⟩
        case measure => (try simp only [HW1.out]); simp [intOf]; have := HSZ.out; omega
      · go_wp2_with fail
        refine (cget p.key HT5.out).mono ?_
        rintro e w6 ⟨⟨x6, rfl⟩, hx⟩
        have HX6 := hid_mk (Ext.trans _ _ _ HX5.out hx)
        have HT6 := hid_mk (HT5.out.ext hx)
        clear o0 o1 o2 o3 o4 o5 o6 o7 hol hx HT5 HX5
        obtain ⟨k0, k1⟩ := HT6.out.cnt
        have hkl := cell_lt k0
        rw [HXN.out] at k0
        go_wp2_with fail
        refine wp_region_held_below (fun _ => true) (.quiet 0 (.quiet 1 (.quiet 2 (.quiet 3 (.quiet 4 (.quiet 5 (.quiet 6 (.quiet 7 (.quiet 8 (.quiet 9 (.quiet 10 (.quiet 11 (.quiet 12 (.quiet 13 (.quiet 14 (.quiet 15 (.quiet 16 (.quiet 17 (.quiet 18 .done))))))))))))))))))) (by kernel_rfl) (by kernel_rfl) (by intro c a w d v h; cases d <;> exact h) (fun ops HO => ?_)
        refine plan_read _ (hi_of HO rfl) rfl (fun w' hE => by (repeat (with_reducible replace hE := Ext.unD hE)); have hcE := hE.hc; clear hE; go_simp; rfl) ?_
        simp only [Act.put, List.setIfInBounds_toArray, List.set_cons_succ, List.set_cons_zero]
        refine plan_read _ (hi_of HO rfl) rfl (fun w' hE => by (repeat (with_reducible replace hE := Ext.unD hE)); have hcE := hE.hc; clear hE; go_simp; rfl) ?_
        simp only [Act.put, List.setIfInBounds_toArray, List.set_cons_succ, List.set_cons_zero]
        refine plan_skip (hi_of HO rfl) (by rw [HO.out]; rfl) ?_
        simp only [Act.put, List.setIfInBounds_toArray, List.set_cons_succ, List.set_cons_zero]
        refine plan_skip (hi_of HO rfl) (by rw [HO.out]; rfl) ?_
        simp only [Act.put, List.setIfInBounds_toArray, List.set_cons_succ, List.set_cons_zero]
        refine plan_skip (hi_of HO rfl) (by rw [HO.out]; rfl) ?_
        simp only [Act.put, List.setIfInBounds_toArray, List.set_cons_succ, List.set_cons_zero]
        refine plan_skip (hi_of HO rfl) (by rw [HO.out]; rfl) ?_
        simp only [Act.put, List.setIfInBounds_toArray, List.set_cons_succ, List.set_cons_zero]
        refine plan_skip (hi_of HO rfl) (by rw [HO.out]; rfl) ?_
        simp only [Act.put, List.setIfInBounds_toArray, List.set_cons_succ, List.set_cons_zero]
        refine plan_skip (hi_of HO rfl) (by rw [HO.out]; rfl) ?_
        simp only [Act.put, List.setIfInBounds_toArray, List.set_cons_succ, List.set_cons_zero]
        refine plan_skip (hi_of HO rfl) (by rw [HO.out]; rfl) ?_
        simp only [Act.put, List.setIfInBounds_toArray, List.set_cons_succ, List.set_cons_zero]
        refine plan_read _ (hi_of HO rfl) rfl (fun w' hE => by (repeat (with_reducible replace hE := Ext.unD hE)); have hcE := hE.hc; clear hE; go_simp; rfl) ?_
        simp only [Act.put, List.setIfInBounds_toArray, List.set_cons_succ, List.set_cons_zero]
        refine plan_read _ (hi_of HO rfl) rfl (fun w' hE => by (repeat (with_reducible replace hE := Ext.unD hE)); have hcE := hE.hc; clear hE; go_simp; rfl) ?_
        simp only [Act.put, List.setIfInBounds_toArray, List.set_cons_succ, List.set_cons_zero]
        refine plan_read _ (hi_of HO rfl) (by rw [HO.out]; rfl) (fun w' hE => by (repeat (with_reducible replace hE := Ext.unD hE)); have hcE := hE.hc; clear hE; go_simp; rfl) ?_
        simp only [Act.put, List.setIfInBounds_toArray, List.set_cons_succ, List.set_cons_zero]
        refine plan_read _ (hi_of HO rfl) (by rw [HO.out]; rfl) (fun w' hE => by (repeat (with_reducible replace hE := Ext.unD hE)); have hcE := hE.hc; clear hE; go_simp; rfl) ?_
        simp only [Act.put, List.setIfInBounds_toArray, List.set_cons_succ, List.set_cons_zero]
        refine plan_read _ (hi_of HO rfl) (by rw [HO.out]; rfl) (fun w' hE => by (repeat (with_reducible replace hE := Ext.unD hE)); have hcE := hE.hc; clear hE; go_simp; rfl) ?_
        simp only [Act.put, List.setIfInBounds_toArray, List.set_cons_succ, List.set_cons_zero]
        refine plan_read _ (hi_of HO rfl) (by rw [HO.out]; rfl) (fun w' hE => by (repeat (with_reducible replace hE := Ext.unD hE)); have hcE := hE.hc; clear hE; go_simp; rfl) ?_
        simp only [Act.put, List.setIfInBounds_toArray, List.set_cons_succ, List.set_cons_zero]
        refine plan_read _ (hi_of HO rfl) (by rw [HO.out]; rfl) (fun w' hE => by (repeat (with_reducible replace hE := Ext.unD hE)); have hcE := hE.hc; clear hE; go_simp; rfl) ?_
        simp only [Act.put, List.setIfInBounds_toArray, List.set_cons_succ, List.set_cons_zero]
        refine plan_read _ (hi_of HO rfl) (by rw [HO.out]; rfl) (fun w' hE => by (repeat (with_reducible replace hE := Ext.unD hE)); have hcE := hE.hc; clear hE; go_simp; rfl) ?_
        simp only [Act.put, List.setIfInBounds_toArray, List.set_cons_succ, List.set_cons_zero]
        refine plan_read _ (hi_of HO rfl) (by rw [HO.out]; rfl) (fun w' hE => by (repeat (with_reducible replace hE := Ext.unD hE)); have hcE := hE.hc; clear hE; go_simp; rfl) ?_
        simp only [Act.put, List.setIfInBounds_toArray, List.set_cons_succ, List.set_cons_zero]
        refine plan_read _ (hi_of HO rfl) rfl (fun w' hE => by (repeat (with_reducible replace hE := Ext.unD hE)); have hcE := hE.hc; clear hE; go_simp; rfl) ?_
        simp only [Act.put, List.setIfInBounds_toArray, List.set_cons_succ, List.set_cons_zero]
        refine plan_done ?fin102
        go_wp2
        go_roundw
        case rel => exact ⟨m + 1, by have := HSZ.out; omega, (by first | exact congrArg (Value.int .i64) HW1.out | rfl), T, n, HT6.out.ext (by (repeat (first | exact Ext.refl _ | apply Ext.drew_left | apply Ext.drew | apply Ext.alloc))), HEV.out, by have := HSZ.out; omega, Ext.trans _ _ _ HX6.out (by (repeat (first | exact Ext.refl _ | apply Ext.drew_left | apply Ext.drew | apply Ext.alloc)))⟩
        case measure => (try simp only [HW1.out]); simp [intOf]; have := HSZ.out; omega
      · go_wp2_with fail
        refine (crank p.key HT5.out (by have := HSZ.out; have := HLC.out.2; omega)).mono ?_
        rintro e w6 ⟨⟨x6, rfl⟩, hx⟩
        have HX6 := hid_mk (Ext.trans _ _ _ HX5.out hx)
        have HT6 := hid_mk (HT5.out.ext hx)
        clear o0 o1 o2 o3 o4 o5 o6 o7 hol hx HT5 HX5
        obtain ⟨k0, k1⟩ := HT6.out.cnt
        have hkl := cell_lt k0
        rw [HXN.out] at k0
        go_wp2_with fail
        refine wp_region_held_below (fun _ => true) (.quiet 0 (.quiet 1 (.quiet 2 (.quiet 3 (.quiet 4 (.quiet 5 (.quiet 6 (.quiet 7 (.quiet 8 (.quiet 9 (.quiet 10 (.quiet 11 (.quiet 12 (.quiet 13 (.quiet 14 (.quiet 15 (.quiet 16 (.quiet 17 (.quiet 18 .done))))))))))))))))))) (by kernel_rfl) (by kernel_rfl) (by intro c a w d v h; cases d <;> exact h) (fun ops HO => ?_)
        refine plan_read _ (hi_of HO rfl) rfl (fun w' hE => by (repeat (with_reducible replace hE := Ext.unD hE)); have hcE := hE.hc; clear hE; go_simp; rfl) ?_
        simp only [Act.put, List.setIfInBounds_toArray, List.set_cons_succ, List.set_cons_zero]
        refine plan_read _ (hi_of HO rfl) rfl (fun w' hE => by (repeat (with_reducible replace hE := Ext.unD hE)); have hcE := hE.hc; clear hE; go_simp; rfl) ?_
        simp only [Act.put, List.setIfInBounds_toArray, List.set_cons_succ, List.set_cons_zero]
        refine plan_skip (hi_of HO rfl) (by rw [HO.out]; rfl) ?_
        simp only [Act.put, List.setIfInBounds_toArray, List.set_cons_succ, List.set_cons_zero]
        refine plan_skip (hi_of HO rfl) (by rw [HO.out]; rfl) ?_
        simp only [Act.put, List.setIfInBounds_toArray, List.set_cons_succ, List.set_cons_zero]
        refine plan_skip (hi_of HO rfl) (by rw [HO.out]; rfl) ?_
        simp only [Act.put, List.setIfInBounds_toArray, List.set_cons_succ, List.set_cons_zero]
        refine plan_skip (hi_of HO rfl) (by rw [HO.out]; rfl) ?_
        simp only [Act.put, List.setIfInBounds_toArray, List.set_cons_succ, List.set_cons_zero]
        refine plan_skip (hi_of HO rfl) (by rw [HO.out]; rfl) ?_
        simp only [Act.put, List.setIfInBounds_toArray, List.set_cons_succ, List.set_cons_zero]
        refine plan_skip (hi_of HO rfl) (by rw [HO.out]; rfl) ?_
        simp only [Act.put, List.setIfInBounds_toArray, List.set_cons_succ, List.set_cons_zero]
        refine plan_skip (hi_of HO rfl) (by rw [HO.out]; rfl) ?_
        simp only [Act.put, List.setIfInBounds_toArray, List.set_cons_succ, List.set_cons_zero]
        refine plan_read _ (hi_of HO rfl) rfl (fun w' hE => by (repeat (with_reducible replace hE := Ext.unD hE)); have hcE := hE.hc; clear hE; go_simp; rfl) ?_
        simp only [Act.put, List.setIfInBounds_toArray, List.set_cons_succ, List.set_cons_zero]
        refine plan_read _ (hi_of HO rfl) rfl (fun w' hE => by (repeat (with_reducible replace hE := Ext.unD hE)); have hcE := hE.hc; clear hE; go_simp; rfl) ?_
        simp only [Act.put, List.setIfInBounds_toArray, List.set_cons_succ, List.set_cons_zero]
        refine plan_read _ (hi_of HO rfl) (by rw [HO.out]; rfl) (fun w' hE => by (repeat (with_reducible replace hE := Ext.unD hE)); have hcE := hE.hc; clear hE; go_simp; rfl) ?_
        simp only [Act.put, List.setIfInBounds_toArray, List.set_cons_succ, List.set_cons_zero]
        refine plan_read _ (hi_of HO rfl) (by rw [HO.out]; rfl) (fun w' hE => by (repeat (with_reducible replace hE := Ext.unD hE)); have hcE := hE.hc; clear hE; go_simp; rfl) ?_
        simp only [Act.put, List.setIfInBounds_toArray, List.set_cons_succ, List.set_cons_zero]
        refine plan_read _ (hi_of HO rfl) (by rw [HO.out]; rfl) (fun w' hE => by (repeat (with_reducible replace hE := Ext.unD hE)); have hcE := hE.hc; clear hE; go_simp; rfl) ?_
        simp only [Act.put, List.setIfInBounds_toArray, List.set_cons_succ, List.set_cons_zero]
        refine plan_read _ (hi_of HO rfl) (by rw [HO.out]; rfl) (fun w' hE => by (repeat (with_reducible replace hE := Ext.unD hE)); have hcE := hE.hc; clear hE; go_simp; rfl) ?_
        simp only [Act.put, List.setIfInBounds_toArray, List.set_cons_succ, List.set_cons_zero]
        refine plan_read _ (hi_of HO rfl) (by rw [HO.out]; rfl) (fun w' hE => by (repeat (with_reducible replace hE := Ext.unD hE)); have hcE := hE.hc; clear hE; go_simp; rfl) ?_
        simp only [Act.put, List.setIfInBounds_toArray, List.set_cons_succ, List.set_cons_zero]
        refine plan_read _ (hi_of HO rfl) (by rw [HO.out]; rfl) (fun w' hE => by (repeat (with_reducible replace hE := Ext.unD hE)); have hcE := hE.hc; clear hE; go_simp; rfl) ?_
        simp only [Act.put, List.setIfInBounds_toArray, List.set_cons_succ, List.set_cons_zero]
        refine plan_read _ (hi_of HO rfl) (by rw [HO.out]; rfl) (fun w' hE => by (repeat (with_reducible replace hE := Ext.unD hE)); have hcE := hE.hc; clear hE; go_simp; rfl) ?_
        simp only [Act.put, List.setIfInBounds_toArray, List.set_cons_succ, List.set_cons_zero]
        refine plan_read _ (hi_of HO rfl) rfl (fun w' hE => by (repeat (with_reducible replace hE := Ext.unD hE)); have hcE := hE.hc; clear hE; go_simp; rfl) ?_
        simp only [Act.put, List.setIfInBounds_toArray, List.set_cons_succ, List.set_cons_zero]
        refine plan_done ?fin103
        go_wp2
        go_roundw
        case rel => exact ⟨m + 1, by have := HSZ.out; omega, (by first | exact congrArg (Value.int .i64) HW1.out | rfl), T, n, HT6.out.ext (by (repeat (first | exact Ext.refl _ | apply Ext.drew_left | apply Ext.drew | apply Ext.alloc))), HEV.out, by have := HSZ.out; omega, Ext.trans _ _ _ HX6.out (by (repeat (first | exact Ext.refl _ | apply Ext.drew_left | apply Ext.drew | apply Ext.alloc)))⟩
        case measure => (try simp only [HW1.out]); simp [intOf]; have := HSZ.out; omega
      · go_wp2_with fail
        refine (cat1 p.i HPO.out.i HT5.out (by have := HSZ.out; have := HLC.out.2; omega)).mono ?_
        rintro e w6 ⟨⟨x6, rfl⟩, hx⟩
        have HX6 := hid_mk (Ext.trans _ _ _ HX5.out hx)
        have HT6 := hid_mk (HT5.out.ext hx)
        clear o0 o1 o2 o3 o4 o5 o6 o7 hol hx HT5 HX5
        obtain ⟨k0, k1⟩ := HT6.out.cnt
        have hkl := cell_lt k0
        rw [HXN.out] at k0
        go_wp2_with fail
        refine wp_region_held_below (fun _ => true) (.quiet 0 (.quiet 1 (.quiet 2 (.quiet 3 (.quiet 4 (.quiet 5 (.quiet 6 (.quiet 7 (.quiet 8 (.quiet 9 (.quiet 10 (.quiet 11 (.quiet 12 (.quiet 13 (.quiet 14 (.quiet 15 (.quiet 16 (.quiet 17 (.quiet 18 .done))))))))))))))))))) (by kernel_rfl) (by kernel_rfl) (by intro c a w d v h; cases d <;> exact h) (fun ops HO => ?_)
        refine plan_read _ (hi_of HO rfl) rfl (fun w' hE => by (repeat (with_reducible replace hE := Ext.unD hE)); have hcE := hE.hc; clear hE; go_simp; rfl) ?_
        simp only [Act.put, List.setIfInBounds_toArray, List.set_cons_succ, List.set_cons_zero]
        refine plan_read _ (hi_of HO rfl) rfl (fun w' hE => by (repeat (with_reducible replace hE := Ext.unD hE)); have hcE := hE.hc; clear hE; go_simp; rfl) ?_
        simp only [Act.put, List.setIfInBounds_toArray, List.set_cons_succ, List.set_cons_zero]
        refine plan_skip (hi_of HO rfl) (by rw [HO.out]; rfl) ?_
        simp only [Act.put, List.setIfInBounds_toArray, List.set_cons_succ, List.set_cons_zero]
        refine plan_skip (hi_of HO rfl) (by rw [HO.out]; rfl) ?_
        simp only [Act.put, List.setIfInBounds_toArray, List.set_cons_succ, List.set_cons_zero]
        refine plan_skip (hi_of HO rfl) (by rw [HO.out]; rfl) ?_
        simp only [Act.put, List.setIfInBounds_toArray, List.set_cons_succ, List.set_cons_zero]
        refine plan_skip (hi_of HO rfl) (by rw [HO.out]; rfl) ?_
        simp only [Act.put, List.setIfInBounds_toArray, List.set_cons_succ, List.set_cons_zero]
        refine plan_skip (hi_of HO rfl) (by rw [HO.out]; rfl) ?_
        simp only [Act.put, List.setIfInBounds_toArray, List.set_cons_succ, List.set_cons_zero]
        refine plan_skip (hi_of HO rfl) (by rw [HO.out]; rfl) ?_
        simp only [Act.put, List.setIfInBounds_toArray, List.set_cons_succ, List.set_cons_zero]
        refine plan_skip (hi_of HO rfl) (by rw [HO.out]; rfl) ?_
        simp only [Act.put, List.setIfInBounds_toArray, List.set_cons_succ, List.set_cons_zero]
        refine plan_read _ (hi_of HO rfl) rfl (fun w' hE => by (repeat (with_reducible replace hE := Ext.unD hE)); have hcE := hE.hc; clear hE; go_simp; rfl) ?_
        simp only [Act.put, List.setIfInBounds_toArray, List.set_cons_succ, List.set_cons_zero]
        refine plan_read _ (hi_of HO rfl) rfl (fun w' hE => by (repeat (with_reducible replace hE := Ext.unD hE)); have hcE := hE.hc; clear hE; go_simp; rfl) ?_
        simp only [Act.put, List.setIfInBounds_toArray, List.set_cons_succ, List.set_cons_zero]
        refine plan_read _ (hi_of HO rfl) (by rw [HO.out]; rfl) (fun w' hE => by (repeat (with_reducible replace hE := Ext.unD hE)); have hcE := hE.hc; clear hE; go_simp; rfl) ?_
        simp only [Act.put, List.setIfInBounds_toArray, List.set_cons_succ, List.set_cons_zero]
        refine plan_read _ (hi_of HO rfl) (by rw [HO.out]; rfl) (fun w' hE => by (repeat (with_reducible replace hE := Ext.unD hE)); have hcE := hE.hc; clear hE; go_simp; rfl) ?_
        simp only [Act.put, List.setIfInBounds_toArray, List.set_cons_succ, List.set_cons_zero]
        refine plan_read _ (hi_of HO rfl) (by rw [HO.out]; rfl) (fun w' hE => by (repeat (with_reducible replace hE := Ext.unD hE)); have hcE := hE.hc; clear hE; go_simp; rfl) ?_
        simp only [Act.put, List.setIfInBounds_toArray, List.set_cons_succ, List.set_cons_zero]
        refine plan_read _ (hi_of HO rfl) (by rw [HO.out]; rfl) (fun w' hE => by (repeat (with_reducible replace hE := Ext.unD hE)); have hcE := hE.hc; clear hE; go_simp; rfl) ?_
        simp only [Act.put, List.setIfInBounds_toArray, List.set_cons_succ, List.set_cons_zero]
        refine plan_read _ (hi_of HO rfl) (by rw [HO.out]; rfl) (fun w' hE => by (repeat (with_reducible replace hE := Ext.unD hE)); have hcE := hE.hc; clear hE; go_simp; rfl) ?_
        simp only [Act.put, List.setIfInBounds_toArray, List.set_cons_succ, List.set_cons_zero]
        refine plan_read _ (hi_of HO rfl) (by rw [HO.out]; rfl) (fun w' hE => by (repeat (with_reducible replace hE := Ext.unD hE)); have hcE := hE.hc; clear hE; go_simp; rfl) ?_
        simp only [Act.put, List.setIfInBounds_toArray, List.set_cons_succ, List.set_cons_zero]
        refine plan_read _ (hi_of HO rfl) (by rw [HO.out]; rfl) (fun w' hE => by (repeat (with_reducible replace hE := Ext.unD hE)); have hcE := hE.hc; clear hE; go_simp; rfl) ?_
        simp only [Act.put, List.setIfInBounds_toArray, List.set_cons_succ, List.set_cons_zero]
        refine plan_read _ (hi_of HO rfl) rfl (fun w' hE => by (repeat (with_reducible replace hE := Ext.unD hE)); have hcE := hE.hc; clear hE; go_simp; rfl) ?_
        simp only [Act.put, List.setIfInBounds_toArray, List.set_cons_succ, List.set_cons_zero]
        refine plan_done ?fin104
        go_wp2
        go_roundw
        case rel => exact ⟨m + 1, by have := HSZ.out; omega, (by first | exact congrArg (Value.int .i64) HW1.out | rfl), T, n, HT6.out.ext (by (repeat (first | exact Ext.refl _ | apply Ext.drew_left | apply Ext.drew | apply Ext.alloc))), HEV.out, by have := HSZ.out; omega, Ext.trans _ _ _ HX6.out (by (repeat (first | exact Ext.refl _ | apply Ext.drew_left | apply Ext.drew | apply Ext.alloc)))⟩
        case measure => (try simp only [HW1.out]); simp [intOf]; have := HSZ.out; omega
      · go_wp2_with fail
        refine (cfold p.i p.j HPO.out.i HPO.out.j HT5.out (by have := HSZ.out; have := HLC.out.2; omega)).mono ?_
        rintro e w6 ⟨⟨x6, rfl⟩, j, hT6, hj, hx6⟩
        obtain ⟨T', hT'⟩ : ∃ T', T' = T := ⟨_, rfl⟩
        have hpe : T'.Even ∧ T.high ≤ T'.high ∧ T'.high ≤ T.high + 1 := by rw [hT']; exact ⟨HEV.out, Nat.le_refl _, Nat.le_succ _⟩
        have hps : T'.size ≤ T.size + 1 := by rw [hT']; exact Nat.le_succ _
        have hpl : T.size ≤ T'.size := by rw [hT']; exact Nat.le_refl _
        rw [← hT'] at hT6
        clear hT'
        have HX6 := hid_mk (Xl.ext HX5.out hx6 (by intro q hq; simp only [List.mem_cons, List.not_mem_nil, or_false] at hq; rcases hq with rfl | rfl; exact HTB.out; exact HJB.out))
        have HT6 := hid_mk hT6
        have HT'S := hid_mk (show T'.size ≤ m + 1 ∧ T'.size ≤ 4398046511104 by have := HSZ.out; have := HLC.out.2; omega)
        have hcst := Tr.cost_ok (Nat.le_trans (Tr.even_size T HEV.out) (Nat.succ_le_succ hpl)) (lg_ok HT'S.out.2)
        have hl62 := lg_le T'.size
        have HEV' := hid_mk hpe.1
        obtain ⟨y, hy⟩ : ∃ y, wrap64 ((n + j : Nat) : Int) = y := ⟨_, rfl⟩
        have hsub : wrap64 (y - x) = (j : Int) := by rw [← hy, ← HXN.out]; exact wrap64_diff n j (by omega)
        have hsubI : IntKind.i64.wrap (y - x) = (j : Int) := by
          have h := hsub
          unfold wrap64 at h
          rw [IntKind.wrap_i64]
          exact h
        have HG1 := hid_mk (show decide ((16 : Int) * (1 + (lg T'.size : Int)) < IntKind.i64.wrap (y - x)) = false by rw [hsubI]; exact decide_eq_false (by clear hsub hsubI hy; omega))
        clear o0 o1 o2 o3 o4 o5 o6 o7 hol HT5 HX5 hx6 hT6 hcst hpe hps hpl hj hl62
        obtain ⟨k0, k1⟩ := HT6.out.cnt
        have hkl := cell_lt k0
        rw [hy] at k0
        clear hy hsub hsubI
        go_wp2_with fail
        refine wp_region_held_below (fun _ => true) (.quiet 0 (.quiet 1 (.quiet 2 (.quiet 3 (.quiet 4 (.quiet 5 (.quiet 6 (.quiet 7 (.quiet 8 (.quiet 9 (.quiet 10 (.quiet 11 (.quiet 12 (.quiet 13 (.quiet 14 (.quiet 15 (.quiet 16 (.quiet 17 (.quiet 18 .done))))))))))))))))))) (by kernel_rfl) (by kernel_rfl) (by intro c a w d v h; cases d <;> exact h) (fun ops HO => ?_)
        refine plan_read _ (hi_of HO rfl) rfl (fun w' hE => by (repeat (with_reducible replace hE := Ext.unD hE)); have hcE := hE.hc; clear hE; go_simp; rfl) ?_
        simp only [Act.put, List.setIfInBounds_toArray, List.set_cons_succ, List.set_cons_zero]
        refine plan_read _ (hi_of HO rfl) rfl (fun w' hE => by (repeat (with_reducible replace hE := Ext.unD hE)); have hcE := hE.hc; clear hE; go_simp; rfl) ?_
        simp only [Act.put, List.setIfInBounds_toArray, List.set_cons_succ, List.set_cons_zero]
        refine plan_read _ (hi_of HO rfl) (by rw [HO.out]; rfl) (fun w' hE => by (repeat (with_reducible replace hE := Ext.unD hE)); have hcE := hE.hc; clear hE; go_simp; rfl) ?_
        simp only [Act.put, List.setIfInBounds_toArray, List.set_cons_succ, List.set_cons_zero]
        refine plan_read _ (hi_of HO rfl) (by rw [HO.out]; rfl) (fun w' hE => by (repeat (with_reducible replace hE := Ext.unD hE)); have hcE := hE.hc; clear hE; go_simp; rfl) ?_
        simp only [Act.put, List.setIfInBounds_toArray, List.set_cons_succ, List.set_cons_zero]
        refine plan_read _ (hi_of HO rfl) (by rw [HO.out]; rfl) (fun w' hE => by (repeat (with_reducible replace hE := Ext.unD hE)); have hcE := hE.hc; clear hE; go_simp; rfl) ?_
        simp only [Act.put, List.setIfInBounds_toArray, List.set_cons_succ, List.set_cons_zero]
        refine plan_read _ (hi_of HO rfl) (by rw [HO.out]; rfl) (fun w' hE => by (repeat (with_reducible replace hE := Ext.unD hE)); have hcE := hE.hc; clear hE; go_simp; rfl) ?_
        simp only [Act.put, List.setIfInBounds_toArray, List.set_cons_succ, List.set_cons_zero]
        refine plan_pure _ en_TLen1 (hi_of HO rfl) (by rw [HO.out]; rfl) rfl (by go_simp; rfl) (fun w' hE => by exact (clen (HT6.out.ext (Ext.unD hE)))) ?_
        simp only [Act.put, List.setIfInBounds_toArray, List.set_cons_succ, List.set_cons_zero]
        refine plan_pure _ en_RBound (hi_of HO rfl) (by rw [HO.out]; rfl) rfl (by go_simp; rfl) (fun w' hE => by exact (bound_any T'.size HT'S.out.2 _)) ?_
        simp only [Act.put, List.setIfInBounds_toArray, List.set_cons_succ, List.set_cons_zero]
        refine plan_read _ (hi_of HO rfl) (by rw [HO.out]; rfl) (fun w' hE => by (repeat (with_reducible replace hE := Ext.unD hE)); have hcE := hE.hc; clear hE; go_simp; rw [HG1.out]) ?_
        simp only [Act.put, List.setIfInBounds_toArray, List.set_cons_succ, List.set_cons_zero]
        refine plan_read _ (hi_of HO rfl) rfl (fun w' hE => by (repeat (with_reducible replace hE := Ext.unD hE)); have hcE := hE.hc; clear hE; go_simp; rfl) ?_
        simp only [Act.put, List.setIfInBounds_toArray, List.set_cons_succ, List.set_cons_zero]
        refine plan_read _ (hi_of HO rfl) rfl (fun w' hE => by (repeat (with_reducible replace hE := Ext.unD hE)); have hcE := hE.hc; clear hE; go_simp; rfl) ?_
        simp only [Act.put, List.setIfInBounds_toArray, List.set_cons_succ, List.set_cons_zero]
        refine plan_read _ (hi_of HO rfl) (by rw [HO.out]; rfl) (fun w' hE => by (repeat (with_reducible replace hE := Ext.unD hE)); have hcE := hE.hc; clear hE; go_simp; rfl) ?_
        simp only [Act.put, List.setIfInBounds_toArray, List.set_cons_succ, List.set_cons_zero]
        refine plan_read _ (hi_of HO rfl) (by rw [HO.out]; rfl) (fun w' hE => by (repeat (with_reducible replace hE := Ext.unD hE)); have hcE := hE.hc; clear hE; go_simp; rfl) ?_
        simp only [Act.put, List.setIfInBounds_toArray, List.set_cons_succ, List.set_cons_zero]
        refine plan_read _ (hi_of HO rfl) (by rw [HO.out]; rfl) (fun w' hE => by (repeat (with_reducible replace hE := Ext.unD hE)); have hcE := hE.hc; clear hE; go_simp; rfl) ?_
        simp only [Act.put, List.setIfInBounds_toArray, List.set_cons_succ, List.set_cons_zero]
        refine plan_skip (hi_of HO rfl) (by rw [HO.out]; rfl) ?_
        simp only [Act.put, List.setIfInBounds_toArray, List.set_cons_succ, List.set_cons_zero]
        refine plan_skip (hi_of HO rfl) (by rw [HO.out]; rfl) ?_
        simp only [Act.put, List.setIfInBounds_toArray, List.set_cons_succ, List.set_cons_zero]
        refine plan_skip (hi_of HO rfl) (by rw [HO.out]; rfl) ?_
        simp only [Act.put, List.setIfInBounds_toArray, List.set_cons_succ, List.set_cons_zero]
        refine plan_read _ (hi_of HO rfl) (by rw [HO.out]; rfl) (fun w' hE => by (repeat (with_reducible replace hE := Ext.unD hE)); have hcE := hE.hc; clear hE; go_simp; rfl) ?_
        simp only [Act.put, List.setIfInBounds_toArray, List.set_cons_succ, List.set_cons_zero]
        refine plan_read _ (hi_of HO rfl) rfl (fun w' hE => by (repeat (with_reducible replace hE := Ext.unD hE)); have hcE := hE.hc; clear hE; go_simp; rfl) ?_
        simp only [Act.put, List.setIfInBounds_toArray, List.set_cons_succ, List.set_cons_zero]
        refine plan_done ?fin105
        go_wp2
        go_roundw
        case rel => exact ⟨m + 1, by have := HSZ.out; omega, (by first | exact congrArg (Value.int .i64) HW1.out | rfl), T', n + j, HT6.out.ext (by (repeat (first | exact Ext.refl _ | apply Ext.drew_left | apply Ext.drew | apply Ext.alloc))), HEV'.out, HT'S.out.1, Ext.trans _ _ _ HX6.out (by (repeat (first | exact Ext.refl _ | apply Ext.drew_left | apply Ext.drew | apply Ext.alloc)))⟩
        case measure => (try simp only [HW1.out]); simp [intOf]; have := HSZ.out; omega
      · go_wp2_with fail
        refine (cclone HT5.out).mono ?_
        rintro e w6 ⟨⟨x6, rfl⟩, hx⟩
        have ho9 := (show OpAt _ wr.heap.size 0 p from ⟨o0, o1, o2, o3, o4, o5, o6, o7⟩).xt (Xt.of hx : Xt none _ _) (by simp)
        replace HX5 := hid_mk (Ext.trans _ _ _ HX5.out hx)
        replace HT5 := hid_mk (HT5.out.ext hx)
        clear o0 o1 o2 o3 o4 o5 o6 o7 hol hx
        obtain ⟨o0, o1, o2, o3, o4, o5, o6, o7⟩ := ho9
        simp only [Nat.zero_add] at o0 o1 o2 o3 o4 o5 o6 o7
        have hol := cell_lt o0
        go_wp2_with fail
        refine (call HT5.out).mono ?_
        rintro e w7 ⟨⟨g7, x7, rfl⟩, hx⟩
        have ho9 := (show OpAt _ wr.heap.size 0 p from ⟨o0, o1, o2, o3, o4, o5, o6, o7⟩).xt (Xt.of hx : Xt none _ _) (by simp)
        replace HX5 := hid_mk (Ext.trans _ _ _ HX5.out hx)
        replace HT5 := hid_mk (HT5.out.ext hx)
        clear o0 o1 o2 o3 o4 o5 o6 o7 hol hx
        obtain ⟨o0, o1, o2, o3, o4, o5, o6, o7⟩ := ho9
        simp only [Nat.zero_add] at o0 o1 o2 o3 o4 o5 o6 o7
        have hol := cell_lt o0
        go_wp2_with fail
        refine (cspan p.i p.j HT5.out).mono ?_
        rintro e w8 ⟨⟨g8, x8, rfl⟩, hx⟩
        have HX6 := hid_mk (Ext.trans _ _ _ HX5.out hx)
        have HT6 := hid_mk (HT5.out.ext hx)
        clear o0 o1 o2 o3 o4 o5 o6 o7 hol hx HT5 HX5
        obtain ⟨k0, k1⟩ := HT6.out.cnt
        have hkl := cell_lt k0
        rw [HXN.out] at k0
        go_wp2_with fail
        refine wp_region_held_below (fun _ => true) (.quiet 0 (.quiet 1 (.quiet 2 (.quiet 3 (.quiet 4 (.quiet 5 (.quiet 6 (.quiet 7 (.quiet 8 (.quiet 9 (.quiet 10 (.quiet 11 (.quiet 12 (.quiet 13 (.quiet 14 (.quiet 15 (.quiet 16 (.quiet 17 (.quiet 18 .done))))))))))))))))))) (by kernel_rfl) (by kernel_rfl) (by intro c a w d v h; cases d <;> exact h) (fun ops HO => ?_)
        refine plan_read _ (hi_of HO rfl) rfl (fun w' hE => by (repeat (with_reducible replace hE := Ext.unD hE)); have hcE := hE.hc; clear hE; go_simp; rfl) ?_
        simp only [Act.put, List.setIfInBounds_toArray, List.set_cons_succ, List.set_cons_zero]
        refine plan_read _ (hi_of HO rfl) rfl (fun w' hE => by (repeat (with_reducible replace hE := Ext.unD hE)); have hcE := hE.hc; clear hE; go_simp; rfl) ?_
        simp only [Act.put, List.setIfInBounds_toArray, List.set_cons_succ, List.set_cons_zero]
        refine plan_skip (hi_of HO rfl) (by rw [HO.out]; rfl) ?_
        simp only [Act.put, List.setIfInBounds_toArray, List.set_cons_succ, List.set_cons_zero]
        refine plan_skip (hi_of HO rfl) (by rw [HO.out]; rfl) ?_
        simp only [Act.put, List.setIfInBounds_toArray, List.set_cons_succ, List.set_cons_zero]
        refine plan_skip (hi_of HO rfl) (by rw [HO.out]; rfl) ?_
        simp only [Act.put, List.setIfInBounds_toArray, List.set_cons_succ, List.set_cons_zero]
        refine plan_skip (hi_of HO rfl) (by rw [HO.out]; rfl) ?_
        simp only [Act.put, List.setIfInBounds_toArray, List.set_cons_succ, List.set_cons_zero]
        refine plan_skip (hi_of HO rfl) (by rw [HO.out]; rfl) ?_
        simp only [Act.put, List.setIfInBounds_toArray, List.set_cons_succ, List.set_cons_zero]
        refine plan_skip (hi_of HO rfl) (by rw [HO.out]; rfl) ?_
        simp only [Act.put, List.setIfInBounds_toArray, List.set_cons_succ, List.set_cons_zero]
        refine plan_skip (hi_of HO rfl) (by rw [HO.out]; rfl) ?_
        simp only [Act.put, List.setIfInBounds_toArray, List.set_cons_succ, List.set_cons_zero]
        refine plan_read _ (hi_of HO rfl) rfl (fun w' hE => by (repeat (with_reducible replace hE := Ext.unD hE)); have hcE := hE.hc; clear hE; go_simp; rfl) ?_
        simp only [Act.put, List.setIfInBounds_toArray, List.set_cons_succ, List.set_cons_zero]
        refine plan_read _ (hi_of HO rfl) rfl (fun w' hE => by (repeat (with_reducible replace hE := Ext.unD hE)); have hcE := hE.hc; clear hE; go_simp; rfl) ?_
        simp only [Act.put, List.setIfInBounds_toArray, List.set_cons_succ, List.set_cons_zero]
        refine plan_read _ (hi_of HO rfl) (by rw [HO.out]; rfl) (fun w' hE => by (repeat (with_reducible replace hE := Ext.unD hE)); have hcE := hE.hc; clear hE; go_simp; rfl) ?_
        simp only [Act.put, List.setIfInBounds_toArray, List.set_cons_succ, List.set_cons_zero]
        refine plan_read _ (hi_of HO rfl) (by rw [HO.out]; rfl) (fun w' hE => by (repeat (with_reducible replace hE := Ext.unD hE)); have hcE := hE.hc; clear hE; go_simp; rfl) ?_
        simp only [Act.put, List.setIfInBounds_toArray, List.set_cons_succ, List.set_cons_zero]
        refine plan_read _ (hi_of HO rfl) (by rw [HO.out]; rfl) (fun w' hE => by (repeat (with_reducible replace hE := Ext.unD hE)); have hcE := hE.hc; clear hE; go_simp; rfl) ?_
        simp only [Act.put, List.setIfInBounds_toArray, List.set_cons_succ, List.set_cons_zero]
        refine plan_read _ (hi_of HO rfl) (by rw [HO.out]; rfl) (fun w' hE => by (repeat (with_reducible replace hE := Ext.unD hE)); have hcE := hE.hc; clear hE; go_simp; rfl) ?_
        simp only [Act.put, List.setIfInBounds_toArray, List.set_cons_succ, List.set_cons_zero]
        refine plan_read _ (hi_of HO rfl) (by rw [HO.out]; rfl) (fun w' hE => by (repeat (with_reducible replace hE := Ext.unD hE)); have hcE := hE.hc; clear hE; go_simp; rfl) ?_
        simp only [Act.put, List.setIfInBounds_toArray, List.set_cons_succ, List.set_cons_zero]
        refine plan_read _ (hi_of HO rfl) (by rw [HO.out]; rfl) (fun w' hE => by (repeat (with_reducible replace hE := Ext.unD hE)); have hcE := hE.hc; clear hE; go_simp; rfl) ?_
        simp only [Act.put, List.setIfInBounds_toArray, List.set_cons_succ, List.set_cons_zero]
        refine plan_read _ (hi_of HO rfl) (by rw [HO.out]; rfl) (fun w' hE => by (repeat (with_reducible replace hE := Ext.unD hE)); have hcE := hE.hc; clear hE; go_simp; rfl) ?_
        simp only [Act.put, List.setIfInBounds_toArray, List.set_cons_succ, List.set_cons_zero]
        refine plan_read _ (hi_of HO rfl) rfl (fun w' hE => by (repeat (with_reducible replace hE := Ext.unD hE)); have hcE := hE.hc; clear hE; go_simp; rfl) ?_
        simp only [Act.put, List.setIfInBounds_toArray, List.set_cons_succ, List.set_cons_zero]
        refine plan_done ?fin106
        go_wp2
        go_roundw
        case rel => exact ⟨m + 1, by have := HSZ.out; omega, (by first | exact congrArg (Value.int .i64) HW1.out | rfl), T, n, HT6.out.ext (by (repeat (first | exact Ext.refl _ | apply Ext.drew_left | apply Ext.drew | apply Ext.alloc))), HEV.out, by have := HSZ.out; omega, Ext.trans _ _ _ HX6.out (by (repeat (first | exact Ext.refl _ | apply Ext.drew_left | apply Ext.drew | apply Ext.alloc)))⟩
        case measure => (try simp only [HW1.out]); simp [intOf]; have := HSZ.out; omega
    · have hmm : ¬ (m : Int) < (L.length : Int) := by omega
      go_wp2
      go_ret
      exact ⟨rfl, HXR.out⟩
end Go.Proofs.Ytgglbohcnlcagaa
