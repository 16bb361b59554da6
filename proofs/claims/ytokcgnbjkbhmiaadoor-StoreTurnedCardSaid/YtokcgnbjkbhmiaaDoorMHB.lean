/- Ghosts: two maps side by side: merge's iterator over their pairs. -/
import Derived.Test.YtokcgnbjkbhmiaaDoorMHA
import Derived.Test.YtokcgnbjkbhmiaaDoorMFG
import Derived.Test.YtokcgnbjkbhmiaaDoorMTA
import Derived.RangeFuncNested
import Derived.RangeFuncBound
import Derived.RangeFuncCalls
import Derived.RangeFuncLeaves
import Derived.Shelf.Abstract
import Derived.Shelf.RegionOpen
import Derived.WalkKit
import Derived.OwnWalkIn
import Derived.TacticsInMore
import Derived.RegionIn
import Derived.LoopNIn
import Derived.LoopIn
import Derived.WalkMore
namespace Go.Proofs.YtokcgnbjkbhmiaaDoor
open Go.RowKit
set_option maxHeartbeats 4000000
set_option maxRecDepth 100000
set_option linter.unusedSimpArgs false
set_option linter.unusedVariables false
attribute [local go_sem] Oper.semAt_some

/-- Pairs of two lists, side by side. -/
def prs : List Ent → List Ent → List (Ent × Ent)
  | [], [] => []
  | x :: a, [] => (x, zE) :: prs a []
  | [], y :: b => (zE, y) :: prs [] b
  | x :: a, y :: b => if Op.bytesLess x.key.toList y.key.toList = true then (x, zE) :: prs a (y :: b) else if Op.bytesLess y.key.toList x.key.toList = true then (zE, y) :: prs (x :: a) b else (x, y) :: prs a b
termination_by a b => a.length + b.length
theorem prs_nn : prs [] [] = [] := by rw [prs]
theorem prs_cn (x : Ent) (a : List Ent) : prs (x :: a) [] = (x, zE) :: prs a [] := by rw [prs]
theorem prs_nc (y : Ent) (b : List Ent) : prs [] (y :: b) = (zE, y) :: prs [] b := by rw [prs]
theorem prs_lt {x y : Ent} {a b : List Ent} (h : Op.bytesLess x.key.toList y.key.toList = true) : prs (x :: a) (y :: b) = (x, zE) :: prs a (y :: b) := by rw [prs, if_pos h]
theorem prs_gt {x y : Ent} {a b : List Ent} (h : Op.bytesLess x.key.toList y.key.toList = false) (h' : Op.bytesLess y.key.toList x.key.toList = true) : prs (x :: a) (y :: b) = (zE, y) :: prs (x :: a) b := by rw [prs, if_neg (by rw [h]; simp), if_pos h']
theorem prs_eq {x y : Ent} {a b : List Ent} (h : Op.bytesLess x.key.toList y.key.toList = false) (h' : Op.bytesLess y.key.toList x.key.toList = false) : prs (x :: a) (y :: b) = (x, y) :: prs a b := by rw [prs, if_neg (by rw [h]; simp), if_neg (by rw [h']; simp)]
/-- What lay below n lies as it lay, but for some blocks. -/
structure BelowX (n : Nat) (L : List Nat) (w w' : World) : Prop where
  os : w'.os = w.os
  tape : w'.tape = w.tape
  output : w'.output = w.output
  size : w.heap.size ≤ w'.heap.size
  block : ∀ k, k < n → k ∉ L → w'.heap[k]? = w.heap[k]?
namespace BelowX
variable {n : Nat} {L : List Nat} {w w' w2 : World}
theorem of (h : Below n w w') : BelowX n L w w' := ⟨h.os, h.tape, h.output, h.size, fun k hk _ => h.block k hk⟩
theorem below (h : BelowX n [] w w') : Below n w w' := ⟨h.os, h.tape, h.output, h.size, fun k hk => h.block k hk (by simp)⟩
theorem trans (h : BelowX n L w w') (k : BelowX n L w' w2) : BelowX n L w w2 := ⟨k.os.trans h.os, k.tape.trans h.tape, k.output.trans h.output, Nat.le_trans h.size k.size, fun i hi hn => (k.block i hi hn).trans (h.block i hi hn)⟩
theorem refl : BelowX n L w w := of (Below.refl _ _)
theorem xl (h : BelowX w.heap.size L w w') : Xl L w w' := ⟨h.os, h.tape, h.output, h.size, h.block⟩
theorem ofXl (h : Xl L w w') (hn : n ≤ w.heap.size) : BelowX n L w w' := ⟨h.os, h.tape, h.output, h.size, fun k hk hl => h.block k (by omega) hl⟩
theorem setCell (h : BelowX n L w w') {b o : Nat} {u : Value} (hb : n ≤ b ∨ b ∈ L) : BelowX n L w (w'.setCell ⟨b, o, none⟩ u) :=
  ⟨h.os, h.tape, h.output, (by simpa [World.setCell] using h.size), fun k hk hl => (Below.heap_setCell _ _ _ _ (by rintro rfl; exact hb.elim (fun e => absurd hk (Nat.not_lt.2 e)) hl)).trans (h.block k hk hl)⟩
end BelowX
theorem belowX_t {n : Nat} {L : List Nat} {A B C : World} (h : BelowX n L A B) (k : BelowX n L B C) : BelowX n L A C := h.trans k
theorem belowX_b {n : Nat} {L : List Nat} {w : World} (hn : n ≤ w.heap.size) (W : World) (l : Nat) (o o' : Obj) (hl : w.heap.size ≤ l) (h : W.heap[l]? = some o) (h1 : o.isCells = false) (h2 : o.isWalk = false) : BelowX n L W (W.putObj l o') := .of (belowK_b hn W l o o' hl h h1 h2)
theorem entAt_xl {L : List Nat} {w w' : World} {b o : Nat} {e : Ent} (h : EntAt w b o e) (hx : Xl L w w') (hn : b ∉ L) : EntAt w' b o e :=
  have hk := cell_lt h.c0
  ⟨(hx.cell hk hn).trans h.c0, (hx.cell hk hn).trans h.c1, (hx.cell hk hn).trans h.c2, (hx.cell hk hn).trans h.c3, (hx.cell hk hn).trans h.c4⟩
def IsPrs (a b : List Ent) (ys : List (Ent × Ent)) : Prop := ys = prs a b
def PrePrs (a b : List Ent) (ys : List (Ent × Ent)) : Prop := ys <+: prs a b
def encP (p : Ent × Ent) : Array Value := #[entV p.1, entV p.2]
theorem gen_wpIn {F : Fence} {n : Nat} {P : Program} {c : Code} {Q : Exit → Act → World → Prop} {a : Act} {w : World} (R : World → Prop) (h0 : R w) (h : ∀ W, R W → c.wpIn F n P Q a W) : c.wpIn F n P Q a w := h w h0
theorem gen_run {F : Fence} {n : Nat} {P : Program} {o : Oper} {a : Act} {K : Act → World → Prop} {Q : Exit → Act → World → Prop} {s : Sem Next} {w : World} (R : World → Prop) (h0 : R w) (h : ∀ W, R W → Oper.uponIn F n P o a K Q (Sem.run P s W)) : Oper.uponIn F n P o a K Q (Sem.run P s w) := h w h0
theorem Xl.hc {L : List Nat} {W w' : World} (hE : Xl L W w') : ∀ b o, b < W.heap.size → b ∉ L → w'.cell? ⟨b, o, none⟩ = W.cell? ⟨b, o, none⟩ := fun b o hb hn => hE.cell (k := b) (o := o) hb hn
theorem xl_two {w A B : World} (e1 : Ext w A) (e2 : Ext w B) (ht : B.tape = A.tape) (hz : A.heap.size = w.heap.size + 2) (hz2 : B.heap.size = w.heap.size + 2) : Xl [w.heap.size, w.heap.size + 1] A B := by
  refine ⟨e2.below.os.trans e1.below.os.symm, ht, e2.below.output.trans e1.below.output.symm, by omega, fun k hk hn => ?_⟩
  simp at hn
  have hk' : k < w.heap.size := by omega
  exact (e2.below.block k hk').trans (e1.below.block k hk').symm
theorem xl_hc2 {w W w' : World} (hE : Xl [w.heap.size, w.heap.size + 1] W w') {b : Nat} (hb : b < W.heap.size) (h1 : b ≠ w.heap.size) (h2 : b ≠ w.heap.size + 1) : ∀ o, w'.cell? ⟨b, o, none⟩ = W.cell? ⟨b, o, none⟩ := fun o => hE.cell (k := b) (o := o) hb (by simp [h1, h2])
theorem pairsX (L : List Nat) (lp ab bb : Nat) (av bv : Value) (a b : List Ent) (J Jx : List (Ent × Ent) → World → Prop) (w : World)
    (hY : ∀ pre x W, J pre W → pre.length < (prs a b).length → YieldAt Fence.wide 3 Tryd.prog lp (encP x) W fun e W' =>
      (e = .returned (.bool true) ∧ J (pre ++ [x]) W' ∧ BelowX w.heap.size L W W') ∨ (e = .returned (.bool false) ∧ Jx (pre ++ [x]) W'))
    (W : World) (hJa : AbidesFrom W.heap.size J) (hab : w.cell? ⟨ab, 0, none⟩ = some av) (hbb : w.cell? ⟨bb, 0, none⟩ = some bv) (hsa : EntSl w av a) (hsb : EntSl w bv b) (hW : BelowX w.heap.size L w W) (haL : ab ∉ L) (hbL : bb ∉ L) (haw : ∀ b o n c, av = .slice (some ⟨b, o, none⟩) n c → 0 < n → b ∉ L) (hbw : ∀ b o n c, bv = .slice (some ⟨b, o, none⟩) n c → 0 < n → b ∉ L) (h0 : J [] W) :
    CallsIn Fence.wide 4 Tryd.prog 149 #[.func (.yield lp) #[] #[], .pointer (some ⟨ab, 0, none⟩), .pointer (some ⟨bb, 0, none⟩)] W fun e W' => (∃ v, e = .returned v) ∧
      ((∃ ys, IsPrs a b ys ∧ J ys W') ∨ (∃ pre, PrePrs a b pre ∧ Jx pre W')) := by
  obtain ⟨aa, ac, rfl, hac, ha63, hca⟩ := hsa
  obtain ⟨ba, bc, rfl, hbc, hb63, hcb⟩ := hsb
  have HCA := hid_mk hca
  have HAW := hid_mk (And.intro haw hbw)
  have HCB := hid_mk hcb
  clear hca hcb haw hbw
  have hBa := cell_lt hab
  have hBb := cell_lt hbb
  refine callsIn_of_wp Tryd.func149 rfl trivial (wpIn_wide.2 (wp_scope_straight ((wpIn_wide (n := 4)).1 ?_))) rfl
  simp only [Tryd.ntmps149, List.size_toArray, List.length_cons, List.length_nil, Nat.reduceAdd, Nat.reduceSub, Array.replicate_succ, Array.replicate_zero, List.push_toArray, List.append_toArray, List.nil_append, List.cons_append]
  gi_wp2
  refine wpIn_label ?_
  gi_wp2
  gi_loopw [4, 5] (fun i j wr => ∃ p q : Nat, i = .int .i64 ((p : Nat) : Int) ∧ j = .int .i64 ((q : Nat) : Int) ∧ p ≤ a.length ∧ q ≤ b.length ∧ (∃ pre, pre ++ prs (a.drop p) (b.drop q) = prs a b ∧ J pre wr) ∧ BelowX w.heap.size L w wr) (fun i j _ => (a.length - (intOf i).toNat) + (b.length - (intOf j).toNat))
  case atStart => exact ⟨0, 0, rfl, rfl, Nat.zero_le _, Nat.zero_le _, ⟨[], by simp, h0⟩, hW⟩
  case round =>
    obtain ⟨p, q, rfl, rfl, hp, hq, ⟨pre, hpre, hJs⟩, hnx⟩ := hrel
    have HPRE := hid_mk hpre
    have HX := hid_mk hnx.xl
    have hca := (hnx.xl.cell hBa haL).trans hab
    have hcb := (hnx.xl.cell hBb hbL).trans hbb
    have hcal := cell_lt hca
    have hcbl := cell_lt hcb
    have hcal1 : ab < wr.heap.size + 1 := by omega
    have hcbl1 : bb < wr.heap.size + 1 := by omega
    have hcal2 : ab < wr.heap.size + 1 + 1 := by omega
    have hcbl2 : bb < wr.heap.size + 1 + 1 := by omega
    have hp0 : (0 : Int) ≤ (p : Int) := by omega
    have hq0 : (0 : Int) ≤ (q : Int) := by omega
    have HJ := hid_mk hJs
    have HWP := hid_mk (show wrap64 ((p : Int) + 1) = (p : Int) + 1 from w64in (by omega))
    have HWQ := hid_mk (show wrap64 ((q : Int) + 1) = (q : Int) + 1 from w64in (by omega))
    clear hpre hJs
    by_cases hpl : p < a.length
    · obtain ⟨xb, xo, rfl, hxl⟩ := HCA.out (by omega)
      obtain ⟨x0, x1, x2, x3, x4⟩ := entAt_xl (hxl p hpl) HX.out (HAW.out.1 _ _ _ _ rfl (by omega))
      have hxbl := cell_lt x0
      have hxbl1 : xb < wr.heap.size + 1 := by omega
      have hxbl2 : xb < wr.heap.size + 1 + 1 := by omega
      have HDX := hid_mk (List.drop_eq_getElem_cons hpl)
      obtain ⟨x, hx⟩ : ∃ x, a[p] = x := ⟨_, rfl⟩
      rw [hx] at x0 x1 x2 x3 x4 HDX
      have hpe : ((p : Int) == (a.length : Int)) = false := by rw [beq_eq_false_iff_ne]; omega
      have hpi : (p : Int) < (a.length : Int) := by omega
      clear hxl hx
      by_cases hql : q < b.length
      · skip
        obtain ⟨yb, yo, rfl, hyl⟩ := HCB.out (by omega)
        obtain ⟨y0, y1, y2, y3, y4⟩ := entAt_xl (hyl q hql) HX.out (HAW.out.2 _ _ _ _ rfl (by omega))
        have hybl := cell_lt y0
        have hybl1 : yb < wr.heap.size + 1 := by omega
        have hybl2 : yb < wr.heap.size + 1 + 1 := by omega
        have HDY := hid_mk (List.drop_eq_getElem_cons hql)
        obtain ⟨y, hy⟩ : ∃ y, b[q] = y := ⟨_, rfl⟩
        rw [hy] at y0 y1 y2 y3 y4 HDY
        have hqe : ((q : Int) == (b.length : Int)) = false := by rw [beq_eq_false_iff_ne]; omega
        have hqi : (q : Int) < (b.length : Int) := by omega
        clear hyl hy
        rcases h1 : Op.bytesLess x.key.toList y.key.toList with _ | _
        · rcases h2 : Op.bytesLess y.key.toList x.key.toList with _ | _
          · skip
            gi_wp2
            refine wpIn_wide.2 ?_
            refine wp_region_held_below (fun _ => true) (.quiet 0 (.quiet 1 (.quiet 2 (.quiet 3 (.quiet 4 (.quiet 5 (.quiet 6 (.quiet 7 (.quiet 8 (.quiet 9 (.quiet 10 (.quiet 11 (.quiet 12 (.quiet 13 (.quiet 14 (.quiet 15 (.quiet 16 (.quiet 17 (.quiet 18 (.quiet 19 (.quiet 20 (.quiet 21 (.quiet 22 (.quiet 23 .done)))))))))))))))))))))))) (by kernel_rfl) (by kernel_rfl) (by intro c a w d v h; cases d <;> exact h) (fun ops HO => ?_)
            refine plan_read _ (hi_of HO rfl) rfl (fun w' hE => by (repeat (with_reducible replace hE := Ext.unD hE)); have hcE := hE.hc; clear hE; go_simp; rfl) ?_
            simp only [Act.put, List.setIfInBounds_toArray, List.set_cons_succ, List.set_cons_zero]
            refine plan_read _ (hi_of HO rfl) rfl (fun w' hE => by (repeat (with_reducible replace hE := Ext.unD hE)); have hcE := hE.hc; clear hE; go_simp; rfl) ?_
            simp only [Act.put, List.setIfInBounds_toArray, List.set_cons_succ, List.set_cons_zero]
            refine plan_read _ (hi_of HO rfl) rfl (fun w' hE => by (repeat (with_reducible replace hE := Ext.unD hE)); have hcE := hE.hc; clear hE; go_simp; rfl) ?_
            simp only [Act.put, List.setIfInBounds_toArray, List.set_cons_succ, List.set_cons_zero]
            refine plan_read _ (hi_of HO rfl) rfl (fun w' hE => by (repeat (with_reducible replace hE := Ext.unD hE)); have hcE := hE.hc; clear hE; go_simp; rfl) ?_
            simp only [Act.put, List.setIfInBounds_toArray, List.set_cons_succ, List.set_cons_zero]
            refine plan_read _ (hi_of HO rfl) rfl (fun w' hE => by (repeat (with_reducible replace hE := Ext.unD hE)); have hcE := hE.hc; clear hE; go_simp; rfl) ?_
            simp only [Act.put, List.setIfInBounds_toArray, List.set_cons_succ, List.set_cons_zero]
            refine plan_read _ (hi_of HO rfl) (by rw [HO.out]; rfl) (fun w' hE => by (repeat (with_reducible replace hE := Ext.unD hE)); have hcE := hE.hc; clear hE; go_simp; rfl) ?_
            simp only [Act.put, List.setIfInBounds_toArray, List.set_cons_succ, List.set_cons_zero]
            refine plan_read _ (hi_of HO rfl) (by rw [HO.out]; rfl) (fun w' hE => by (repeat (with_reducible replace hE := Ext.unD hE)); have hcE := hE.hc; clear hE; go_simp; rfl) ?_
            simp only [Act.put, List.setIfInBounds_toArray, List.set_cons_succ, List.set_cons_zero]
            refine plan_read _ (hi_of HO rfl) (by rw [HO.out]; rfl) (fun w' hE => by (repeat (with_reducible replace hE := Ext.unD hE)); have hcE := hE.hc; clear hE; go_simp; rfl) ?_
            simp only [Act.put, List.setIfInBounds_toArray, List.set_cons_succ, List.set_cons_zero]
            refine plan_read _ (hi_of HO rfl) (by rw [HO.out]; rfl) (fun w' hE => by (repeat (with_reducible replace hE := Ext.unD hE)); have hcE := hE.hc; clear hE; go_simp; rfl) ?_
            simp only [Act.put, List.setIfInBounds_toArray, List.set_cons_succ, List.set_cons_zero]
            refine plan_read _ (hi_of HO rfl) (by rw [HO.out]; rfl) (fun w' hE => by (repeat (with_reducible replace hE := Ext.unD hE)); have hcE := hE.hc; clear hE; go_simp; rfl) ?_
            simp only [Act.put, List.setIfInBounds_toArray, List.set_cons_succ, List.set_cons_zero]
            refine plan_read _ (hi_of HO rfl) (by rw [HO.out]; rfl) (fun w' hE => by (repeat (with_reducible replace hE := Ext.unD hE)); have hcE := hE.hc; clear hE; go_simp; rfl) ?_
            simp only [Act.put, List.setIfInBounds_toArray, List.set_cons_succ, List.set_cons_zero]
            refine plan_read _ (hi_of HO rfl) (by rw [HO.out]; rfl) (fun w' hE => by (repeat (with_reducible replace hE := Ext.unD hE)); have hcE := hE.hc; clear hE; go_simp; rfl) ?_
            simp only [Act.put, List.setIfInBounds_toArray, List.set_cons_succ, List.set_cons_zero]
            refine plan_read _ (hi_of HO rfl) (by rw [HO.out]; rfl) (fun w' hE => by (repeat (with_reducible replace hE := Ext.unD hE)); have hcE := hE.hc; clear hE; go_simp; rfl) ?_
            simp only [Act.put, List.setIfInBounds_toArray, List.set_cons_succ, List.set_cons_zero]
            refine plan_read _ (hi_of HO rfl) (by rw [HO.out]; rfl) (fun w' hE => by (repeat (with_reducible replace hE := Ext.unD hE)); have hcE := hE.hc; clear hE; go_simp; rfl) ?_
            simp only [Act.put, List.setIfInBounds_toArray, List.set_cons_succ, List.set_cons_zero]
            refine plan_read _ (hi_of HO rfl) (by rw [HO.out]; rfl) (fun w' hE => by (repeat (with_reducible replace hE := Ext.unD hE)); have hcE := hE.hc; clear hE; go_simp; rfl) ?_
            simp only [Act.put, List.setIfInBounds_toArray, List.set_cons_succ, List.set_cons_zero]
            refine plan_read _ (hi_of HO rfl) (by rw [HO.out]; rfl) (fun w' hE => by (repeat (with_reducible replace hE := Ext.unD hE)); have hcE := hE.hc; clear hE; go_simp; rfl) ?_
            simp only [Act.put, List.setIfInBounds_toArray, List.set_cons_succ, List.set_cons_zero]
            refine plan_read _ (hi_of HO rfl) (by rw [HO.out]; rfl) (fun w' hE => by (repeat (with_reducible replace hE := Ext.unD hE)); have hcE := hE.hc; clear hE; go_simp; rfl) ?_
            simp only [Act.put, List.setIfInBounds_toArray, List.set_cons_succ, List.set_cons_zero]
            refine plan_read _ (hi_of HO rfl) (by rw [HO.out]; rfl) (fun w' hE => by (repeat (with_reducible replace hE := Ext.unD hE)); have hcE := hE.hc; clear hE; go_simp; rfl) ?_
            simp only [Act.put, List.setIfInBounds_toArray, List.set_cons_succ, List.set_cons_zero]
            refine plan_read _ (hi_of HO rfl) (by rw [HO.out]; rfl) (fun w' hE => by (repeat (with_reducible replace hE := Ext.unD hE)); have hcE := hE.hc; clear hE; go_simp; rfl) ?_
            simp only [Act.put, List.setIfInBounds_toArray, List.set_cons_succ, List.set_cons_zero]
            refine plan_read _ (hi_of HO rfl) (by rw [HO.out]; rfl) (fun w' hE => by (repeat (with_reducible replace hE := Ext.unD hE)); have hcE := hE.hc; clear hE; go_simp; rfl) ?_
            simp only [Act.put, List.setIfInBounds_toArray, List.set_cons_succ, List.set_cons_zero]
            refine plan_read _ (hi_of HO rfl) (by rw [HO.out]; rfl) (fun w' hE => by (repeat (with_reducible replace hE := Ext.unD hE)); have hcE := hE.hc; clear hE; go_simp; rfl) ?_
            simp only [Act.put, List.setIfInBounds_toArray, List.set_cons_succ, List.set_cons_zero]
            refine plan_read _ (hi_of HO rfl) (by rw [HO.out]; rfl) (fun w' hE => by (repeat (with_reducible replace hE := Ext.unD hE)); have hcE := hE.hc; clear hE; go_simp; rfl) ?_
            simp only [Act.put, List.setIfInBounds_toArray, List.set_cons_succ, List.set_cons_zero]
            refine plan_read _ (hi_of HO rfl) rfl (fun w' hE => by (repeat (with_reducible replace hE := Ext.unD hE)); have hcE := hE.hc; clear hE; go_simp; rfl) ?_
            simp only [Act.put, List.setIfInBounds_toArray, List.set_cons_succ, List.set_cons_zero]
            refine plan_read _ (hi_of HO rfl) rfl (fun w' hE => by (repeat (with_reducible replace hE := Ext.unD hE)); have hcE := hE.hc; clear hE; go_simp; rfl) ?_
            simp only [Act.put, List.setIfInBounds_toArray, List.set_cons_succ, List.set_cons_zero]
            refine plan_done ?fin101
            gi_wp2
            refine wpIn_wide.2 ?_
            refine wp_region_held_below (fun _ => true) (.quiet 0 (.quiet 1 (.quiet 2 (.quiet 3 (.quiet 4 (.quiet 5 (.quiet 6 (.quiet 7 (.quiet 8 (.quiet 9 (.quiet 10 (.quiet 11 (.quiet 12 (.quiet 13 (.quiet 14 (.quiet 15 (.quiet 16 (.quiet 17 .done)))))))))))))))))) (by kernel_rfl) (by kernel_rfl) (by intro c a w d v h; cases d <;> exact h) (fun ops HO => ?_)
            refine plan_read _ (hi_of HO rfl) rfl (fun w' hE => by (repeat (with_reducible replace hE := Ext.unD hE)); have hcE := hE.hc; clear hE; go_simp; rfl) ?_
            simp only [Act.put, List.setIfInBounds_toArray, List.set_cons_succ, List.set_cons_zero]
            refine plan_read _ (hi_of HO rfl) rfl (fun w' hE => by (repeat (with_reducible replace hE := Ext.unD hE)); have hcE := hE.hc; clear hE; go_simp; rfl) ?_
            simp only [Act.put, List.setIfInBounds_toArray, List.set_cons_succ, List.set_cons_zero]
            refine plan_read _ (hi_of HO rfl) rfl (fun w' hE => by (repeat (with_reducible replace hE := Ext.unD hE)); have hcE := hE.hc; clear hE; go_simp; rfl) ?_
            simp only [Act.put, List.setIfInBounds_toArray, List.set_cons_succ, List.set_cons_zero]
            refine plan_read _ (hi_of HO rfl) rfl (fun w' hE => by (repeat (with_reducible replace hE := Ext.unD hE)); have hcE := hE.hc; clear hE; go_simp; rfl) ?_
            simp only [Act.put, List.setIfInBounds_toArray, List.set_cons_succ, List.set_cons_zero]
            refine plan_read _ (hi_of HO rfl) rfl (fun w' hE => by (repeat (with_reducible replace hE := Ext.unD hE)); have hcE := hE.hc; clear hE; go_simp; rfl) ?_
            simp only [Act.put, List.setIfInBounds_toArray, List.set_cons_succ, List.set_cons_zero]
            refine plan_read _ (hi_of HO rfl) (by rw [HO.out]; rfl) (fun w' hE => by (repeat (with_reducible replace hE := Ext.unD hE)); have hcE := hE.hc; clear hE; go_simp; rfl) ?_
            simp only [Act.put, List.setIfInBounds_toArray, List.set_cons_succ, List.set_cons_zero]
            refine plan_read _ (hi_of HO rfl) (by rw [HO.out]; rfl) (fun w' hE => by (repeat (with_reducible replace hE := Ext.unD hE)); have hcE := hE.hc; clear hE; go_simp; rfl) ?_
            simp only [Act.put, List.setIfInBounds_toArray, List.set_cons_succ, List.set_cons_zero]
            refine plan_read _ (hi_of HO rfl) (by rw [HO.out]; rfl) (fun w' hE => by (repeat (with_reducible replace hE := Ext.unD hE)); have hcE := hE.hc; clear hE; go_simp; rfl) ?_
            simp only [Act.put, List.setIfInBounds_toArray, List.set_cons_succ, List.set_cons_zero]
            refine plan_read _ (hi_of HO rfl) (by rw [HO.out]; rfl) (fun w' hE => by (repeat (with_reducible replace hE := Ext.unD hE)); have hcE := hE.hc; clear hE; go_simp; rfl) ?_
            simp only [Act.put, List.setIfInBounds_toArray, List.set_cons_succ, List.set_cons_zero]
            refine plan_read _ (hi_of HO rfl) (by rw [HO.out]; rfl) (fun w' hE => by (repeat (with_reducible replace hE := Ext.unD hE)); have hcE := hE.hc; clear hE; go_simp; rfl) ?_
            simp only [Act.put, List.setIfInBounds_toArray, List.set_cons_succ, List.set_cons_zero]
            refine plan_read _ (hi_of HO rfl) (by rw [HO.out]; rfl) (fun w' hE => by (repeat (with_reducible replace hE := Ext.unD hE)); have hcE := hE.hc; clear hE; go_simp; rfl) ?_
            simp only [Act.put, List.setIfInBounds_toArray, List.set_cons_succ, List.set_cons_zero]
            refine plan_read _ (hi_of HO rfl) (by rw [HO.out]; rfl) (fun w' hE => by (repeat (with_reducible replace hE := Ext.unD hE)); have hcE := hE.hc; clear hE; go_simp; rfl) ?_
            simp only [Act.put, List.setIfInBounds_toArray, List.set_cons_succ, List.set_cons_zero]
            refine plan_read _ (hi_of HO rfl) (by rw [HO.out]; rfl) (fun w' hE => by (repeat (with_reducible replace hE := Ext.unD hE)); have hcE := hE.hc; clear hE; go_simp; rfl) ?_
            simp only [Act.put, List.setIfInBounds_toArray, List.set_cons_succ, List.set_cons_zero]
            refine plan_read _ (hi_of HO rfl) (by rw [HO.out]; rfl) (fun w' hE => by (repeat (with_reducible replace hE := Ext.unD hE)); have hcE := hE.hc; clear hE; go_simp; rfl) ?_
            simp only [Act.put, List.setIfInBounds_toArray, List.set_cons_succ, List.set_cons_zero]
            refine plan_read _ (hi_of HO rfl) (by rw [HO.out]; rfl) (fun w' hE => by (repeat (with_reducible replace hE := Ext.unD hE)); have hcE := hE.hc; clear hE; go_simp; rfl) ?_
            simp only [Act.put, List.setIfInBounds_toArray, List.set_cons_succ, List.set_cons_zero]
            refine plan_read _ (hi_of HO rfl) (by rw [HO.out]; rfl) (fun w' hE => by (repeat (with_reducible replace hE := Ext.unD hE)); have hcE := hE.hc; clear hE; go_simp; rfl) ?_
            simp only [Act.put, List.setIfInBounds_toArray, List.set_cons_succ, List.set_cons_zero]
            refine plan_read _ (hi_of HO rfl) rfl (fun w' hE => by (repeat (with_reducible replace hE := Ext.unD hE)); have hcE := hE.hc; clear hE; go_simp; rfl) ?_
            simp only [Act.put, List.setIfInBounds_toArray, List.set_cons_succ, List.set_cons_zero]
            refine plan_read _ (hi_of HO rfl) rfl (fun w' hE => by (repeat (with_reducible replace hE := Ext.unD hE)); have hcE := hE.hc; clear hE; go_simp; rfl) ?_
            simp only [Act.put, List.setIfInBounds_toArray, List.set_cons_succ, List.set_cons_zero]
            refine plan_done ?fin102
            gi_wp2
            refine wpIn_wide.2 ?_
            refine wp_region_held_plan (Xl [wr.heap.size,wr.heap.size+1]) (fun _ => true) (.quiet 0 (.quiet 1 (.quiet 2 (.quiet 3 (.quiet 4 (.quiet 5 (.quiet 6 (.quiet 7 (.alt 8 (.alt 9 .done .stop) .stop))))))))) (by kernel_rfl) (by kernel_rfl) Xl.refl Xl.trans (by intro c a w d v h; cases d <;> exact h) (fun ops HO => ?_)
            refine plan_read _ (hi_of HO rfl) rfl (fun w' hE => by have hcA := xl_hc2 (w := wr) (b := ab) hE (by simpa using hcal2) (by omega) (by omega); have hcB := xl_hc2 (w := wr) (b := bb) hE (by simpa using hcbl2) (by omega) (by omega); have hcX := xl_hc2 (w := wr) (b := xb) hE (by simpa using hxbl2) (by omega) (by omega); have hcY := xl_hc2 (w := wr) (b := yb) hE (by simpa using hybl2) (by omega) (by omega); clear hE; go_simp; rfl) ?_
            simp only [Act.put, List.setIfInBounds_toArray, List.set_cons_succ, List.set_cons_zero]
            refine plan_read _ (hi_of HO rfl) rfl (fun w' hE => by (repeat (with_reducible replace hE := Ext.unD hE)); have hcE := hE.hc; clear hE; go_simp; rfl) ?_
            simp only [Act.put, List.setIfInBounds_toArray, List.set_cons_succ, List.set_cons_zero]
            refine plan_read _ (hi_of HO rfl) rfl (fun w' hE => by (repeat (with_reducible replace hE := Ext.unD hE)); have hcE := hE.hc; clear hE; go_simp; rfl) ?_
            simp only [Act.put, List.setIfInBounds_toArray, List.set_cons_succ, List.set_cons_zero]
            refine plan_read _ (hi_of HO rfl) rfl (fun w' hE => by have hcA := xl_hc2 (w := wr) (b := ab) hE (by simpa using hcal2) (by omega) (by omega); have hcB := xl_hc2 (w := wr) (b := bb) hE (by simpa using hcbl2) (by omega) (by omega); have hcX := xl_hc2 (w := wr) (b := xb) hE (by simpa using hxbl2) (by omega) (by omega); have hcY := xl_hc2 (w := wr) (b := yb) hE (by simpa using hybl2) (by omega) (by omega); clear hE; go_simp; rfl) ?_
            simp only [Act.put, List.setIfInBounds_toArray, List.set_cons_succ, List.set_cons_zero]
            refine plan_read _ (hi_of HO rfl) rfl (fun w' hE => by have hcA := xl_hc2 (w := wr) (b := ab) hE (by simpa using hcal2) (by omega) (by omega); have hcB := xl_hc2 (w := wr) (b := bb) hE (by simpa using hcbl2) (by omega) (by omega); have hcX := xl_hc2 (w := wr) (b := xb) hE (by simpa using hxbl2) (by omega) (by omega); have hcY := xl_hc2 (w := wr) (b := yb) hE (by simpa using hybl2) (by omega) (by omega); clear hE; go_simp; rfl) ?_
            simp only [Act.put, List.setIfInBounds_toArray, List.set_cons_succ, List.set_cons_zero]
            refine plan_read _ (hi_of HO rfl) rfl (fun w' hE => by (repeat (with_reducible replace hE := Ext.unD hE)); have hcE := hE.hc; clear hE; go_simp; rfl) ?_
            simp only [Act.put, List.setIfInBounds_toArray, List.set_cons_succ, List.set_cons_zero]
            refine plan_read _ (hi_of HO rfl) rfl (fun w' hE => by (repeat (with_reducible replace hE := Ext.unD hE)); have hcE := hE.hc; clear hE; go_simp; rfl) ?_
            simp only [Act.put, List.setIfInBounds_toArray, List.set_cons_succ, List.set_cons_zero]
            refine plan_read _ (hi_of HO rfl) rfl (fun w' hE => by have hcA := xl_hc2 (w := wr) (b := ab) hE (by simpa using hcal2) (by omega) (by omega); have hcB := xl_hc2 (w := wr) (b := bb) hE (by simpa using hcbl2) (by omega) (by omega); have hcX := xl_hc2 (w := wr) (b := xb) hE (by simpa using hxbl2) (by omega) (by omega); have hcY := xl_hc2 (w := wr) (b := yb) hE (by simpa using hybl2) (by omega) (by omega); clear hE; go_simp; rfl) ?_
            simp only [Act.put, List.setIfInBounds_toArray, List.set_cons_succ, List.set_cons_zero]
            refine plan_loud1 (hi_of HO rfl) rfl ?_
            go_simp
            refine ⟨xl_two (by (repeat (first | exact Ext.refl _ | apply Ext.drew_left | apply Ext.drew | apply Ext.alloc))) (by (repeat (first | exact Ext.refl _ | apply Ext.drew_left | apply Ext.drew | apply Ext.alloc))) rfl (by simp) (by simp), ?_⟩
            refine plan_loud1 (hi_of HO rfl) rfl ?_
            go_simp
            refine ⟨xl_two (by (repeat (first | exact Ext.refl _ | apply Ext.drew_left | apply Ext.drew | apply Ext.alloc))) (by (repeat (first | exact Ext.refl _ | apply Ext.drew_left | apply Ext.drew | apply Ext.alloc))) rfl (by simp) (by simp), ?_⟩
            refine plan_done ?fin103
            gi_wp2
            refine gen_run (fun W => Ext wr W) (by (repeat (first | exact Ext.refl _ | apply Ext.drew_left | apply Ext.drew | apply Ext.alloc))) ?_
            intro W6 hx6
            have HPN := hid_mk (show pre ++ [(x, y)] ++ prs (a.drop (p + 1)) (b.drop (q + 1)) = prs a b by rw [← HPRE.out, List.append_assoc]; congr 1; symm; rw [HDX.out, HDY.out, prs_eq h1 h2] <;> rfl)
            have hJ6 : J pre W6 := hJa pre wr W6 none (HJ.out) (grown_of_ext hx6 none) (by simp)
            have hlen : pre.length < (prs a b).length := by rw [← HPN.out]; simp
            obtain ⟨fn, tmps, assign, body, hyd, hR⟩ := hY pre (x, y) W6 hJ6 hlen
            have HB6 := hid_mk (hnx.trans (BelowX.of (hx6.below.mono hnx.size)))
            dsimp only [encP, entV, zE] at hyd
            rw [hyd]
            clear hyd hJ6 hlen hx6
            gi_wp2_with fail
            refine hR.mono ?_
            rintro e W3 (⟨rfl, hJ3, hk3⟩ | ⟨rfl, hJx3⟩)
            · gi_wp2
              go_roundw
              case rel => exact ⟨p + 1, q + 1, by first | rfl | exact congrArg (Value.int .i64) HWP.out, by first | rfl | exact congrArg (Value.int .i64) HWQ.out, by omega, by omega, ⟨_, HPN.out, hJ3⟩, HB6.out.trans hk3⟩
              case measure => (try simp only [HWP.out]); (try simp only [HWQ.out]); simp [intOf]; omega
            · gi_wp2
              rw [Exit.noGoto_ret]
              refine bodyPost_ret (results_none rfl _ _ _) rfl ?_
              exact ⟨⟨_, rfl⟩, .inr ⟨_, ⟨_, HPN.out⟩, hJx3⟩⟩
          · skip
            gi_wp2
            refine wpIn_wide.2 ?_
            refine wp_region_held_below (fun _ => true) (.quiet 0 (.quiet 1 (.quiet 2 (.quiet 3 (.quiet 4 (.quiet 5 (.quiet 6 (.quiet 7 (.quiet 8 (.quiet 9 (.quiet 10 (.quiet 11 (.quiet 12 (.quiet 13 (.quiet 14 (.quiet 15 (.quiet 16 (.quiet 17 (.quiet 18 (.quiet 19 (.quiet 20 (.quiet 21 (.quiet 22 (.quiet 23 .done)))))))))))))))))))))))) (by kernel_rfl) (by kernel_rfl) (by intro c a w d v h; cases d <;> exact h) (fun ops HO => ?_)
            refine plan_read _ (hi_of HO rfl) rfl (fun w' hE => by (repeat (with_reducible replace hE := Ext.unD hE)); have hcE := hE.hc; clear hE; go_simp; rfl) ?_
            simp only [Act.put, List.setIfInBounds_toArray, List.set_cons_succ, List.set_cons_zero]
            refine plan_read _ (hi_of HO rfl) rfl (fun w' hE => by (repeat (with_reducible replace hE := Ext.unD hE)); have hcE := hE.hc; clear hE; go_simp; rfl) ?_
            simp only [Act.put, List.setIfInBounds_toArray, List.set_cons_succ, List.set_cons_zero]
            refine plan_read _ (hi_of HO rfl) rfl (fun w' hE => by (repeat (with_reducible replace hE := Ext.unD hE)); have hcE := hE.hc; clear hE; go_simp; rfl) ?_
            simp only [Act.put, List.setIfInBounds_toArray, List.set_cons_succ, List.set_cons_zero]
            refine plan_read _ (hi_of HO rfl) rfl (fun w' hE => by (repeat (with_reducible replace hE := Ext.unD hE)); have hcE := hE.hc; clear hE; go_simp; rfl) ?_
            simp only [Act.put, List.setIfInBounds_toArray, List.set_cons_succ, List.set_cons_zero]
            refine plan_read _ (hi_of HO rfl) rfl (fun w' hE => by (repeat (with_reducible replace hE := Ext.unD hE)); have hcE := hE.hc; clear hE; go_simp; rfl) ?_
            simp only [Act.put, List.setIfInBounds_toArray, List.set_cons_succ, List.set_cons_zero]
            refine plan_read _ (hi_of HO rfl) (by rw [HO.out]; rfl) (fun w' hE => by (repeat (with_reducible replace hE := Ext.unD hE)); have hcE := hE.hc; clear hE; go_simp; rfl) ?_
            simp only [Act.put, List.setIfInBounds_toArray, List.set_cons_succ, List.set_cons_zero]
            refine plan_read _ (hi_of HO rfl) (by rw [HO.out]; rfl) (fun w' hE => by (repeat (with_reducible replace hE := Ext.unD hE)); have hcE := hE.hc; clear hE; go_simp; rfl) ?_
            simp only [Act.put, List.setIfInBounds_toArray, List.set_cons_succ, List.set_cons_zero]
            refine plan_read _ (hi_of HO rfl) (by rw [HO.out]; rfl) (fun w' hE => by (repeat (with_reducible replace hE := Ext.unD hE)); have hcE := hE.hc; clear hE; go_simp; rfl) ?_
            simp only [Act.put, List.setIfInBounds_toArray, List.set_cons_succ, List.set_cons_zero]
            refine plan_read _ (hi_of HO rfl) (by rw [HO.out]; rfl) (fun w' hE => by (repeat (with_reducible replace hE := Ext.unD hE)); have hcE := hE.hc; clear hE; go_simp; rfl) ?_
            simp only [Act.put, List.setIfInBounds_toArray, List.set_cons_succ, List.set_cons_zero]
            refine plan_read _ (hi_of HO rfl) (by rw [HO.out]; rfl) (fun w' hE => by (repeat (with_reducible replace hE := Ext.unD hE)); have hcE := hE.hc; clear hE; go_simp; rfl) ?_
            simp only [Act.put, List.setIfInBounds_toArray, List.set_cons_succ, List.set_cons_zero]
            refine plan_read _ (hi_of HO rfl) (by rw [HO.out]; rfl) (fun w' hE => by (repeat (with_reducible replace hE := Ext.unD hE)); have hcE := hE.hc; clear hE; go_simp; rfl) ?_
            simp only [Act.put, List.setIfInBounds_toArray, List.set_cons_succ, List.set_cons_zero]
            refine plan_read _ (hi_of HO rfl) (by rw [HO.out]; rfl) (fun w' hE => by (repeat (with_reducible replace hE := Ext.unD hE)); have hcE := hE.hc; clear hE; go_simp; rfl) ?_
            simp only [Act.put, List.setIfInBounds_toArray, List.set_cons_succ, List.set_cons_zero]
            refine plan_read _ (hi_of HO rfl) (by rw [HO.out]; rfl) (fun w' hE => by (repeat (with_reducible replace hE := Ext.unD hE)); have hcE := hE.hc; clear hE; go_simp; rfl) ?_
            simp only [Act.put, List.setIfInBounds_toArray, List.set_cons_succ, List.set_cons_zero]
            refine plan_read _ (hi_of HO rfl) (by rw [HO.out]; rfl) (fun w' hE => by (repeat (with_reducible replace hE := Ext.unD hE)); have hcE := hE.hc; clear hE; go_simp; rfl) ?_
            simp only [Act.put, List.setIfInBounds_toArray, List.set_cons_succ, List.set_cons_zero]
            refine plan_read _ (hi_of HO rfl) (by rw [HO.out]; rfl) (fun w' hE => by (repeat (with_reducible replace hE := Ext.unD hE)); have hcE := hE.hc; clear hE; go_simp; rfl) ?_
            simp only [Act.put, List.setIfInBounds_toArray, List.set_cons_succ, List.set_cons_zero]
            refine plan_read _ (hi_of HO rfl) (by rw [HO.out]; rfl) (fun w' hE => by (repeat (with_reducible replace hE := Ext.unD hE)); have hcE := hE.hc; clear hE; go_simp; rfl) ?_
            simp only [Act.put, List.setIfInBounds_toArray, List.set_cons_succ, List.set_cons_zero]
            refine plan_read _ (hi_of HO rfl) (by rw [HO.out]; rfl) (fun w' hE => by (repeat (with_reducible replace hE := Ext.unD hE)); have hcE := hE.hc; clear hE; go_simp; rfl) ?_
            simp only [Act.put, List.setIfInBounds_toArray, List.set_cons_succ, List.set_cons_zero]
            refine plan_read _ (hi_of HO rfl) (by rw [HO.out]; rfl) (fun w' hE => by (repeat (with_reducible replace hE := Ext.unD hE)); have hcE := hE.hc; clear hE; go_simp; rfl) ?_
            simp only [Act.put, List.setIfInBounds_toArray, List.set_cons_succ, List.set_cons_zero]
            refine plan_read _ (hi_of HO rfl) (by rw [HO.out]; rfl) (fun w' hE => by (repeat (with_reducible replace hE := Ext.unD hE)); have hcE := hE.hc; clear hE; go_simp; rfl) ?_
            simp only [Act.put, List.setIfInBounds_toArray, List.set_cons_succ, List.set_cons_zero]
            refine plan_read _ (hi_of HO rfl) (by rw [HO.out]; rfl) (fun w' hE => by (repeat (with_reducible replace hE := Ext.unD hE)); have hcE := hE.hc; clear hE; go_simp; rfl) ?_
            simp only [Act.put, List.setIfInBounds_toArray, List.set_cons_succ, List.set_cons_zero]
            refine plan_read _ (hi_of HO rfl) (by rw [HO.out]; rfl) (fun w' hE => by (repeat (with_reducible replace hE := Ext.unD hE)); have hcE := hE.hc; clear hE; go_simp; rfl) ?_
            simp only [Act.put, List.setIfInBounds_toArray, List.set_cons_succ, List.set_cons_zero]
            refine plan_read _ (hi_of HO rfl) (by rw [HO.out]; rfl) (fun w' hE => by (repeat (with_reducible replace hE := Ext.unD hE)); have hcE := hE.hc; clear hE; go_simp; rfl) ?_
            simp only [Act.put, List.setIfInBounds_toArray, List.set_cons_succ, List.set_cons_zero]
            refine plan_read _ (hi_of HO rfl) rfl (fun w' hE => by (repeat (with_reducible replace hE := Ext.unD hE)); have hcE := hE.hc; clear hE; go_simp; rfl) ?_
            simp only [Act.put, List.setIfInBounds_toArray, List.set_cons_succ, List.set_cons_zero]
            refine plan_read _ (hi_of HO rfl) rfl (fun w' hE => by (repeat (with_reducible replace hE := Ext.unD hE)); have hcE := hE.hc; clear hE; go_simp; rfl) ?_
            simp only [Act.put, List.setIfInBounds_toArray, List.set_cons_succ, List.set_cons_zero]
            refine plan_done ?fin104
            gi_wp2
            refine wpIn_wide.2 ?_
            refine wp_region_held_below (fun _ => true) (.quiet 0 (.quiet 1 (.quiet 2 (.quiet 3 (.quiet 4 (.quiet 5 (.quiet 6 (.quiet 7 (.quiet 8 (.quiet 9 (.quiet 10 (.quiet 11 (.quiet 12 (.quiet 13 (.quiet 14 (.quiet 15 (.quiet 16 (.quiet 17 .done)))))))))))))))))) (by kernel_rfl) (by kernel_rfl) (by intro c a w d v h; cases d <;> exact h) (fun ops HO => ?_)
            refine plan_read _ (hi_of HO rfl) rfl (fun w' hE => by (repeat (with_reducible replace hE := Ext.unD hE)); have hcE := hE.hc; clear hE; go_simp; rfl) ?_
            simp only [Act.put, List.setIfInBounds_toArray, List.set_cons_succ, List.set_cons_zero]
            refine plan_read _ (hi_of HO rfl) rfl (fun w' hE => by (repeat (with_reducible replace hE := Ext.unD hE)); have hcE := hE.hc; clear hE; go_simp; rfl) ?_
            simp only [Act.put, List.setIfInBounds_toArray, List.set_cons_succ, List.set_cons_zero]
            refine plan_read _ (hi_of HO rfl) rfl (fun w' hE => by (repeat (with_reducible replace hE := Ext.unD hE)); have hcE := hE.hc; clear hE; go_simp; rfl) ?_
            simp only [Act.put, List.setIfInBounds_toArray, List.set_cons_succ, List.set_cons_zero]
            refine plan_read _ (hi_of HO rfl) rfl (fun w' hE => by (repeat (with_reducible replace hE := Ext.unD hE)); have hcE := hE.hc; clear hE; go_simp; rfl) ?_
            simp only [Act.put, List.setIfInBounds_toArray, List.set_cons_succ, List.set_cons_zero]
            refine plan_read _ (hi_of HO rfl) rfl (fun w' hE => by (repeat (with_reducible replace hE := Ext.unD hE)); have hcE := hE.hc; clear hE; go_simp; rfl) ?_
            simp only [Act.put, List.setIfInBounds_toArray, List.set_cons_succ, List.set_cons_zero]
            refine plan_read _ (hi_of HO rfl) (by rw [HO.out]; rfl) (fun w' hE => by (repeat (with_reducible replace hE := Ext.unD hE)); have hcE := hE.hc; clear hE; go_simp; rfl) ?_
            simp only [Act.put, List.setIfInBounds_toArray, List.set_cons_succ, List.set_cons_zero]
            refine plan_read _ (hi_of HO rfl) (by rw [HO.out]; rfl) (fun w' hE => by (repeat (with_reducible replace hE := Ext.unD hE)); have hcE := hE.hc; clear hE; go_simp; rfl) ?_
            simp only [Act.put, List.setIfInBounds_toArray, List.set_cons_succ, List.set_cons_zero]
            refine plan_read _ (hi_of HO rfl) (by rw [HO.out]; rfl) (fun w' hE => by (repeat (with_reducible replace hE := Ext.unD hE)); have hcE := hE.hc; clear hE; go_simp; rfl) ?_
            simp only [Act.put, List.setIfInBounds_toArray, List.set_cons_succ, List.set_cons_zero]
            refine plan_read _ (hi_of HO rfl) (by rw [HO.out]; rfl) (fun w' hE => by (repeat (with_reducible replace hE := Ext.unD hE)); have hcE := hE.hc; clear hE; go_simp; rfl) ?_
            simp only [Act.put, List.setIfInBounds_toArray, List.set_cons_succ, List.set_cons_zero]
            refine plan_read _ (hi_of HO rfl) (by rw [HO.out]; rfl) (fun w' hE => by (repeat (with_reducible replace hE := Ext.unD hE)); have hcE := hE.hc; clear hE; go_simp; rfl) ?_
            simp only [Act.put, List.setIfInBounds_toArray, List.set_cons_succ, List.set_cons_zero]
            refine plan_read _ (hi_of HO rfl) (by rw [HO.out]; rfl) (fun w' hE => by (repeat (with_reducible replace hE := Ext.unD hE)); have hcE := hE.hc; clear hE; go_simp; rfl) ?_
            simp only [Act.put, List.setIfInBounds_toArray, List.set_cons_succ, List.set_cons_zero]
            refine plan_read _ (hi_of HO rfl) (by rw [HO.out]; rfl) (fun w' hE => by (repeat (with_reducible replace hE := Ext.unD hE)); have hcE := hE.hc; clear hE; go_simp; rfl) ?_
            simp only [Act.put, List.setIfInBounds_toArray, List.set_cons_succ, List.set_cons_zero]
            refine plan_read _ (hi_of HO rfl) (by rw [HO.out]; rfl) (fun w' hE => by (repeat (with_reducible replace hE := Ext.unD hE)); have hcE := hE.hc; clear hE; go_simp; rfl) ?_
            simp only [Act.put, List.setIfInBounds_toArray, List.set_cons_succ, List.set_cons_zero]
            refine plan_read _ (hi_of HO rfl) (by rw [HO.out]; rfl) (fun w' hE => by (repeat (with_reducible replace hE := Ext.unD hE)); have hcE := hE.hc; clear hE; go_simp; rfl) ?_
            simp only [Act.put, List.setIfInBounds_toArray, List.set_cons_succ, List.set_cons_zero]
            refine plan_read _ (hi_of HO rfl) (by rw [HO.out]; rfl) (fun w' hE => by (repeat (with_reducible replace hE := Ext.unD hE)); have hcE := hE.hc; clear hE; go_simp; rfl) ?_
            simp only [Act.put, List.setIfInBounds_toArray, List.set_cons_succ, List.set_cons_zero]
            refine plan_read _ (hi_of HO rfl) (by rw [HO.out]; rfl) (fun w' hE => by (repeat (with_reducible replace hE := Ext.unD hE)); have hcE := hE.hc; clear hE; go_simp; rfl) ?_
            simp only [Act.put, List.setIfInBounds_toArray, List.set_cons_succ, List.set_cons_zero]
            refine plan_read _ (hi_of HO rfl) rfl (fun w' hE => by (repeat (with_reducible replace hE := Ext.unD hE)); have hcE := hE.hc; clear hE; go_simp; rfl) ?_
            simp only [Act.put, List.setIfInBounds_toArray, List.set_cons_succ, List.set_cons_zero]
            refine plan_read _ (hi_of HO rfl) rfl (fun w' hE => by (repeat (with_reducible replace hE := Ext.unD hE)); have hcE := hE.hc; clear hE; go_simp; rfl) ?_
            simp only [Act.put, List.setIfInBounds_toArray, List.set_cons_succ, List.set_cons_zero]
            refine plan_done ?fin105
            gi_wp2
            refine gen_run (fun W => Ext wr W) (by (repeat (first | exact Ext.refl _ | apply Ext.drew_left | apply Ext.drew | apply Ext.alloc))) ?_
            intro W6 hx6
            have HPN := hid_mk (show pre ++ [(zE, y)] ++ prs (a.drop (p)) (b.drop (q + 1)) = prs a b by rw [← HPRE.out, List.append_assoc]; congr 1; symm; rw [HDX.out, HDY.out, prs_gt h1 h2] <;> rfl)
            have hJ6 : J pre W6 := hJa pre wr W6 none (HJ.out) (grown_of_ext hx6 none) (by simp)
            have hlen : pre.length < (prs a b).length := by rw [← HPN.out]; simp
            obtain ⟨fn, tmps, assign, body, hyd, hR⟩ := hY pre (zE, y) W6 hJ6 hlen
            have HB6 := hid_mk (hnx.trans (BelowX.of (hx6.below.mono hnx.size)))
            dsimp only [encP, entV, zE] at hyd
            rw [hyd]
            clear hyd hJ6 hlen hx6
            gi_wp2_with fail
            refine hR.mono ?_
            rintro e W3 (⟨rfl, hJ3, hk3⟩ | ⟨rfl, hJx3⟩)
            · gi_wp2
              go_roundw
              case rel => exact ⟨p, q + 1, by first | rfl | exact congrArg (Value.int .i64) HWP.out, by first | rfl | exact congrArg (Value.int .i64) HWQ.out, by omega, by omega, ⟨_, HPN.out, hJ3⟩, HB6.out.trans hk3⟩
              case measure => (try simp only [HWP.out]); (try simp only [HWQ.out]); simp [intOf]; omega
            · gi_wp2
              rw [Exit.noGoto_ret]
              refine bodyPost_ret (results_none rfl _ _ _) rfl ?_
              exact ⟨⟨_, rfl⟩, .inr ⟨_, ⟨_, HPN.out⟩, hJx3⟩⟩
        · skip
          gi_wp2
          refine wpIn_wide.2 ?_
          refine wp_region_held_below (fun _ => true) (.quiet 0 (.quiet 1 (.quiet 2 (.quiet 3 (.quiet 4 (.quiet 5 (.quiet 6 (.quiet 7 (.quiet 8 (.quiet 9 (.quiet 10 (.quiet 11 (.quiet 12 (.quiet 13 (.quiet 14 (.quiet 15 (.quiet 16 (.quiet 17 (.quiet 18 (.quiet 19 (.quiet 20 (.quiet 21 (.quiet 22 (.quiet 23 .done)))))))))))))))))))))))) (by kernel_rfl) (by kernel_rfl) (by intro c a w d v h; cases d <;> exact h) (fun ops HO => ?_)
          refine plan_read _ (hi_of HO rfl) rfl (fun w' hE => by (repeat (with_reducible replace hE := Ext.unD hE)); have hcE := hE.hc; clear hE; go_simp; rfl) ?_
          simp only [Act.put, List.setIfInBounds_toArray, List.set_cons_succ, List.set_cons_zero]
          refine plan_read _ (hi_of HO rfl) rfl (fun w' hE => by (repeat (with_reducible replace hE := Ext.unD hE)); have hcE := hE.hc; clear hE; go_simp; rfl) ?_
          simp only [Act.put, List.setIfInBounds_toArray, List.set_cons_succ, List.set_cons_zero]
          refine plan_read _ (hi_of HO rfl) rfl (fun w' hE => by (repeat (with_reducible replace hE := Ext.unD hE)); have hcE := hE.hc; clear hE; go_simp; rfl) ?_
          simp only [Act.put, List.setIfInBounds_toArray, List.set_cons_succ, List.set_cons_zero]
          refine plan_read _ (hi_of HO rfl) rfl (fun w' hE => by (repeat (with_reducible replace hE := Ext.unD hE)); have hcE := hE.hc; clear hE; go_simp; rfl) ?_
          simp only [Act.put, List.setIfInBounds_toArray, List.set_cons_succ, List.set_cons_zero]
          refine plan_read _ (hi_of HO rfl) rfl (fun w' hE => by (repeat (with_reducible replace hE := Ext.unD hE)); have hcE := hE.hc; clear hE; go_simp; rfl) ?_
          simp only [Act.put, List.setIfInBounds_toArray, List.set_cons_succ, List.set_cons_zero]
          refine plan_read _ (hi_of HO rfl) (by rw [HO.out]; rfl) (fun w' hE => by (repeat (with_reducible replace hE := Ext.unD hE)); have hcE := hE.hc; clear hE; go_simp; rfl) ?_
          simp only [Act.put, List.setIfInBounds_toArray, List.set_cons_succ, List.set_cons_zero]
          refine plan_read _ (hi_of HO rfl) (by rw [HO.out]; rfl) (fun w' hE => by (repeat (with_reducible replace hE := Ext.unD hE)); have hcE := hE.hc; clear hE; go_simp; rfl) ?_
          simp only [Act.put, List.setIfInBounds_toArray, List.set_cons_succ, List.set_cons_zero]
          refine plan_read _ (hi_of HO rfl) (by rw [HO.out]; rfl) (fun w' hE => by (repeat (with_reducible replace hE := Ext.unD hE)); have hcE := hE.hc; clear hE; go_simp; rfl) ?_
          simp only [Act.put, List.setIfInBounds_toArray, List.set_cons_succ, List.set_cons_zero]
          refine plan_read _ (hi_of HO rfl) (by rw [HO.out]; rfl) (fun w' hE => by (repeat (with_reducible replace hE := Ext.unD hE)); have hcE := hE.hc; clear hE; go_simp; rfl) ?_
          simp only [Act.put, List.setIfInBounds_toArray, List.set_cons_succ, List.set_cons_zero]
          refine plan_read _ (hi_of HO rfl) (by rw [HO.out]; rfl) (fun w' hE => by (repeat (with_reducible replace hE := Ext.unD hE)); have hcE := hE.hc; clear hE; go_simp; rfl) ?_
          simp only [Act.put, List.setIfInBounds_toArray, List.set_cons_succ, List.set_cons_zero]
          refine plan_read _ (hi_of HO rfl) (by rw [HO.out]; rfl) (fun w' hE => by (repeat (with_reducible replace hE := Ext.unD hE)); have hcE := hE.hc; clear hE; go_simp; rfl) ?_
          simp only [Act.put, List.setIfInBounds_toArray, List.set_cons_succ, List.set_cons_zero]
          refine plan_read _ (hi_of HO rfl) (by rw [HO.out]; rfl) (fun w' hE => by (repeat (with_reducible replace hE := Ext.unD hE)); have hcE := hE.hc; clear hE; go_simp; rfl) ?_
          simp only [Act.put, List.setIfInBounds_toArray, List.set_cons_succ, List.set_cons_zero]
          refine plan_read _ (hi_of HO rfl) (by rw [HO.out]; rfl) (fun w' hE => by (repeat (with_reducible replace hE := Ext.unD hE)); have hcE := hE.hc; clear hE; go_simp; rfl) ?_
          simp only [Act.put, List.setIfInBounds_toArray, List.set_cons_succ, List.set_cons_zero]
          refine plan_read _ (hi_of HO rfl) (by rw [HO.out]; rfl) (fun w' hE => by (repeat (with_reducible replace hE := Ext.unD hE)); have hcE := hE.hc; clear hE; go_simp; rfl) ?_
          simp only [Act.put, List.setIfInBounds_toArray, List.set_cons_succ, List.set_cons_zero]
          refine plan_read _ (hi_of HO rfl) (by rw [HO.out]; rfl) (fun w' hE => by (repeat (with_reducible replace hE := Ext.unD hE)); have hcE := hE.hc; clear hE; go_simp; rfl) ?_
          simp only [Act.put, List.setIfInBounds_toArray, List.set_cons_succ, List.set_cons_zero]
          refine plan_read _ (hi_of HO rfl) (by rw [HO.out]; rfl) (fun w' hE => by (repeat (with_reducible replace hE := Ext.unD hE)); have hcE := hE.hc; clear hE; go_simp; rfl) ?_
          simp only [Act.put, List.setIfInBounds_toArray, List.set_cons_succ, List.set_cons_zero]
          refine plan_read _ (hi_of HO rfl) (by rw [HO.out]; rfl) (fun w' hE => by (repeat (with_reducible replace hE := Ext.unD hE)); have hcE := hE.hc; clear hE; go_simp; rfl) ?_
          simp only [Act.put, List.setIfInBounds_toArray, List.set_cons_succ, List.set_cons_zero]
          refine plan_read _ (hi_of HO rfl) (by rw [HO.out]; rfl) (fun w' hE => by (repeat (with_reducible replace hE := Ext.unD hE)); have hcE := hE.hc; clear hE; go_simp; rfl) ?_
          simp only [Act.put, List.setIfInBounds_toArray, List.set_cons_succ, List.set_cons_zero]
          refine plan_read _ (hi_of HO rfl) (by rw [HO.out]; rfl) (fun w' hE => by (repeat (with_reducible replace hE := Ext.unD hE)); have hcE := hE.hc; clear hE; go_simp; rfl) ?_
          simp only [Act.put, List.setIfInBounds_toArray, List.set_cons_succ, List.set_cons_zero]
          refine plan_read _ (hi_of HO rfl) (by rw [HO.out]; rfl) (fun w' hE => by (repeat (with_reducible replace hE := Ext.unD hE)); have hcE := hE.hc; clear hE; go_simp; rfl) ?_
          simp only [Act.put, List.setIfInBounds_toArray, List.set_cons_succ, List.set_cons_zero]
          refine plan_read _ (hi_of HO rfl) (by rw [HO.out]; rfl) (fun w' hE => by (repeat (with_reducible replace hE := Ext.unD hE)); have hcE := hE.hc; clear hE; go_simp; rfl) ?_
          simp only [Act.put, List.setIfInBounds_toArray, List.set_cons_succ, List.set_cons_zero]
          refine plan_read _ (hi_of HO rfl) (by rw [HO.out]; rfl) (fun w' hE => by (repeat (with_reducible replace hE := Ext.unD hE)); have hcE := hE.hc; clear hE; go_simp; rfl) ?_
          simp only [Act.put, List.setIfInBounds_toArray, List.set_cons_succ, List.set_cons_zero]
          refine plan_read _ (hi_of HO rfl) rfl (fun w' hE => by (repeat (with_reducible replace hE := Ext.unD hE)); have hcE := hE.hc; clear hE; go_simp; rfl) ?_
          simp only [Act.put, List.setIfInBounds_toArray, List.set_cons_succ, List.set_cons_zero]
          refine plan_read _ (hi_of HO rfl) rfl (fun w' hE => by (repeat (with_reducible replace hE := Ext.unD hE)); have hcE := hE.hc; clear hE; go_simp; rfl) ?_
          simp only [Act.put, List.setIfInBounds_toArray, List.set_cons_succ, List.set_cons_zero]
          refine plan_done ?fin106
          gi_wp2
          refine gen_run (fun W => Ext wr W) (by (repeat (first | exact Ext.refl _ | apply Ext.drew_left | apply Ext.drew | apply Ext.alloc))) ?_
          intro W6 hx6
          have HPN := hid_mk (show pre ++ [(x, zE)] ++ prs (a.drop (p + 1)) (b.drop (q)) = prs a b by rw [← HPRE.out, List.append_assoc]; congr 1; symm; rw [HDX.out, HDY.out, prs_lt h1] <;> rfl)
          have hJ6 : J pre W6 := hJa pre wr W6 none (HJ.out) (grown_of_ext hx6 none) (by simp)
          have hlen : pre.length < (prs a b).length := by rw [← HPN.out]; simp
          obtain ⟨fn, tmps, assign, body, hyd, hR⟩ := hY pre (x, zE) W6 hJ6 hlen
          have HB6 := hid_mk (hnx.trans (BelowX.of (hx6.below.mono hnx.size)))
          dsimp only [encP, entV, zE] at hyd
          rw [hyd]
          clear hyd hJ6 hlen hx6
          gi_wp2_with fail
          refine hR.mono ?_
          rintro e W3 (⟨rfl, hJ3, hk3⟩ | ⟨rfl, hJx3⟩)
          · gi_wp2
            go_roundw
            case rel => exact ⟨p + 1, q, by first | rfl | exact congrArg (Value.int .i64) HWP.out, by first | rfl | exact congrArg (Value.int .i64) HWQ.out, by omega, by omega, ⟨_, HPN.out, hJ3⟩, HB6.out.trans hk3⟩
            case measure => (try simp only [HWP.out]); (try simp only [HWQ.out]); simp [intOf]; omega
          · gi_wp2
            rw [Exit.noGoto_ret]
            refine bodyPost_ret (results_none rfl _ _ _) rfl ?_
            exact ⟨⟨_, rfl⟩, .inr ⟨_, ⟨_, HPN.out⟩, hJx3⟩⟩
      · obtain rfl : q = b.length := by omega
        have HDY := hid_mk (List.drop_length (l := b))
        gi_wp2
        refine wpIn_wide.2 ?_
        refine wp_region_held_below (fun _ => true) (.quiet 0 (.quiet 1 (.quiet 2 (.quiet 3 (.quiet 4 (.quiet 5 (.quiet 6 (.quiet 7 (.quiet 8 (.quiet 9 (.quiet 10 (.quiet 11 (.quiet 12 (.quiet 13 (.quiet 14 (.quiet 15 (.quiet 16 (.quiet 17 (.quiet 18 (.quiet 19 (.quiet 20 (.quiet 21 (.quiet 22 (.quiet 23 .done)))))))))))))))))))))))) (by kernel_rfl) (by kernel_rfl) (by intro c a w d v h; cases d <;> exact h) (fun ops HO => ?_)
        refine plan_read _ (hi_of HO rfl) rfl (fun w' hE => by (repeat (with_reducible replace hE := Ext.unD hE)); have hcE := hE.hc; clear hE; go_simp; rfl) ?_
        simp only [Act.put, List.setIfInBounds_toArray, List.set_cons_succ, List.set_cons_zero]
        refine plan_read _ (hi_of HO rfl) rfl (fun w' hE => by (repeat (with_reducible replace hE := Ext.unD hE)); have hcE := hE.hc; clear hE; go_simp; rfl) ?_
        simp only [Act.put, List.setIfInBounds_toArray, List.set_cons_succ, List.set_cons_zero]
        refine plan_read _ (hi_of HO rfl) rfl (fun w' hE => by (repeat (with_reducible replace hE := Ext.unD hE)); have hcE := hE.hc; clear hE; go_simp; rfl) ?_
        simp only [Act.put, List.setIfInBounds_toArray, List.set_cons_succ, List.set_cons_zero]
        refine plan_read _ (hi_of HO rfl) rfl (fun w' hE => by (repeat (with_reducible replace hE := Ext.unD hE)); have hcE := hE.hc; clear hE; go_simp; rfl) ?_
        simp only [Act.put, List.setIfInBounds_toArray, List.set_cons_succ, List.set_cons_zero]
        refine plan_read _ (hi_of HO rfl) rfl (fun w' hE => by (repeat (with_reducible replace hE := Ext.unD hE)); have hcE := hE.hc; clear hE; go_simp; rfl) ?_
        simp only [Act.put, List.setIfInBounds_toArray, List.set_cons_succ, List.set_cons_zero]
        refine plan_skip (hi_of HO rfl) (by rw [HO.out]; rfl) ?_
        simp only [Act.put, List.setIfInBounds_toArray, List.set_cons_succ, List.set_cons_zero]
        refine plan_skip (hi_of HO rfl) (by rw [HO.out]; rfl) ?_
        simp only [Act.put, List.setIfInBounds_toArray, List.set_cons_succ, List.set_cons_zero]
        refine plan_skip (hi_of HO rfl) (by rw [HO.out]; rfl) ?_
        simp only [Act.put, List.setIfInBounds_toArray, List.set_cons_succ, List.set_cons_zero]
        refine plan_skip (hi_of HO rfl) (by rw [HO.out]; rfl) ?_
        simp only [Act.put, List.setIfInBounds_toArray, List.set_cons_succ, List.set_cons_zero]
        refine plan_skip (hi_of HO rfl) (by rw [HO.out]; rfl) ?_
        simp only [Act.put, List.setIfInBounds_toArray, List.set_cons_succ, List.set_cons_zero]
        refine plan_skip (hi_of HO rfl) (by rw [HO.out]; rfl) ?_
        simp only [Act.put, List.setIfInBounds_toArray, List.set_cons_succ, List.set_cons_zero]
        refine plan_skip (hi_of HO rfl) (by rw [HO.out]; rfl) ?_
        simp only [Act.put, List.setIfInBounds_toArray, List.set_cons_succ, List.set_cons_zero]
        refine plan_skip (hi_of HO rfl) (by rw [HO.out]; rfl) ?_
        simp only [Act.put, List.setIfInBounds_toArray, List.set_cons_succ, List.set_cons_zero]
        refine plan_skip (hi_of HO rfl) (by rw [HO.out]; rfl) ?_
        simp only [Act.put, List.setIfInBounds_toArray, List.set_cons_succ, List.set_cons_zero]
        refine plan_skip (hi_of HO rfl) (by rw [HO.out]; rfl) ?_
        simp only [Act.put, List.setIfInBounds_toArray, List.set_cons_succ, List.set_cons_zero]
        refine plan_skip (hi_of HO rfl) (by rw [HO.out]; rfl) ?_
        simp only [Act.put, List.setIfInBounds_toArray, List.set_cons_succ, List.set_cons_zero]
        refine plan_skip (hi_of HO rfl) (by rw [HO.out]; rfl) ?_
        simp only [Act.put, List.setIfInBounds_toArray, List.set_cons_succ, List.set_cons_zero]
        refine plan_skip (hi_of HO rfl) (by rw [HO.out]; rfl) ?_
        simp only [Act.put, List.setIfInBounds_toArray, List.set_cons_succ, List.set_cons_zero]
        refine plan_skip (hi_of HO rfl) (by rw [HO.out]; rfl) ?_
        simp only [Act.put, List.setIfInBounds_toArray, List.set_cons_succ, List.set_cons_zero]
        refine plan_skip (hi_of HO rfl) (by rw [HO.out]; rfl) ?_
        simp only [Act.put, List.setIfInBounds_toArray, List.set_cons_succ, List.set_cons_zero]
        refine plan_skip (hi_of HO rfl) (by rw [HO.out]; rfl) ?_
        simp only [Act.put, List.setIfInBounds_toArray, List.set_cons_succ, List.set_cons_zero]
        refine plan_skip (hi_of HO rfl) (by rw [HO.out]; rfl) ?_
        simp only [Act.put, List.setIfInBounds_toArray, List.set_cons_succ, List.set_cons_zero]
        refine plan_read _ (hi_of HO rfl) rfl (fun w' hE => by (repeat (with_reducible replace hE := Ext.unD hE)); have hcE := hE.hc; clear hE; go_simp; rfl) ?_
        simp only [Act.put, List.setIfInBounds_toArray, List.set_cons_succ, List.set_cons_zero]
        refine plan_read _ (hi_of HO rfl) rfl (fun w' hE => by (repeat (with_reducible replace hE := Ext.unD hE)); have hcE := hE.hc; clear hE; go_simp; rfl) ?_
        simp only [Act.put, List.setIfInBounds_toArray, List.set_cons_succ, List.set_cons_zero]
        refine plan_done ?fin107
        gi_wp2
        refine gen_run (fun W => Ext wr W) (by (repeat (first | exact Ext.refl _ | apply Ext.drew_left | apply Ext.drew | apply Ext.alloc))) ?_
        intro W6 hx6
        have HPN := hid_mk (show pre ++ [(x, zE)] ++ prs (a.drop (p + 1)) (b.drop (b.length)) = prs a b by rw [← HPRE.out, List.append_assoc]; congr 1; symm; rw [HDX.out, HDY.out, prs_cn] <;> rfl)
        have hJ6 : J pre W6 := hJa pre wr W6 none (HJ.out) (grown_of_ext hx6 none) (by simp)
        have hlen : pre.length < (prs a b).length := by rw [← HPN.out]; simp
        obtain ⟨fn, tmps, assign, body, hyd, hR⟩ := hY pre (x, zE) W6 hJ6 hlen
        have HB6 := hid_mk (hnx.trans (BelowX.of (hx6.below.mono hnx.size)))
        dsimp only [encP, entV, zE] at hyd
        rw [hyd]
        clear hyd hJ6 hlen hx6
        gi_wp2_with fail
        refine hR.mono ?_
        rintro e W3 (⟨rfl, hJ3, hk3⟩ | ⟨rfl, hJx3⟩)
        · gi_wp2
          go_roundw
          case rel => exact ⟨p + 1, b.length, by first | rfl | exact congrArg (Value.int .i64) HWP.out, by first | rfl | exact congrArg (Value.int .i64) HWQ.out, by omega, by omega, ⟨_, HPN.out, hJ3⟩, HB6.out.trans hk3⟩
          case measure => (try simp only [HWP.out]); (try simp only [HWQ.out]); simp [intOf]; omega
        · gi_wp2
          rw [Exit.noGoto_ret]
          refine bodyPost_ret (results_none rfl _ _ _) rfl ?_
          exact ⟨⟨_, rfl⟩, .inr ⟨_, ⟨_, HPN.out⟩, hJx3⟩⟩
    · obtain rfl : p = a.length := by omega
      have HDX := hid_mk (List.drop_length (l := a))
      by_cases hql : q < b.length
      · skip
        obtain ⟨yb, yo, rfl, hyl⟩ := HCB.out (by omega)
        obtain ⟨y0, y1, y2, y3, y4⟩ := entAt_xl (hyl q hql) HX.out (HAW.out.2 _ _ _ _ rfl (by omega))
        have hybl := cell_lt y0
        have hybl1 : yb < wr.heap.size + 1 := by omega
        have hybl2 : yb < wr.heap.size + 1 + 1 := by omega
        have HDY := hid_mk (List.drop_eq_getElem_cons hql)
        obtain ⟨y, hy⟩ : ∃ y, b[q] = y := ⟨_, rfl⟩
        rw [hy] at y0 y1 y2 y3 y4 HDY
        have hqe : ((q : Int) == (b.length : Int)) = false := by rw [beq_eq_false_iff_ne]; omega
        have hqi : (q : Int) < (b.length : Int) := by omega
        clear hyl hy
        gi_wp2
        refine wpIn_wide.2 ?_
        refine wp_region_held_below (fun _ => true) (.quiet 0 (.quiet 1 (.quiet 2 (.quiet 3 (.quiet 4 (.quiet 5 (.quiet 6 (.quiet 7 (.quiet 8 (.quiet 9 (.quiet 10 (.quiet 11 (.quiet 12 (.quiet 13 (.quiet 14 (.quiet 15 (.quiet 16 (.quiet 17 (.quiet 18 (.quiet 19 (.quiet 20 (.quiet 21 (.quiet 22 (.quiet 23 .done)))))))))))))))))))))))) (by kernel_rfl) (by kernel_rfl) (by intro c a w d v h; cases d <;> exact h) (fun ops HO => ?_)
        refine plan_read _ (hi_of HO rfl) rfl (fun w' hE => by (repeat (with_reducible replace hE := Ext.unD hE)); have hcE := hE.hc; clear hE; go_simp; rfl) ?_
        simp only [Act.put, List.setIfInBounds_toArray, List.set_cons_succ, List.set_cons_zero]
        refine plan_read _ (hi_of HO rfl) rfl (fun w' hE => by (repeat (with_reducible replace hE := Ext.unD hE)); have hcE := hE.hc; clear hE; go_simp; rfl) ?_
        simp only [Act.put, List.setIfInBounds_toArray, List.set_cons_succ, List.set_cons_zero]
        refine plan_read _ (hi_of HO rfl) rfl (fun w' hE => by (repeat (with_reducible replace hE := Ext.unD hE)); have hcE := hE.hc; clear hE; go_simp; rfl) ?_
        simp only [Act.put, List.setIfInBounds_toArray, List.set_cons_succ, List.set_cons_zero]
        refine plan_read _ (hi_of HO rfl) rfl (fun w' hE => by (repeat (with_reducible replace hE := Ext.unD hE)); have hcE := hE.hc; clear hE; go_simp; rfl) ?_
        simp only [Act.put, List.setIfInBounds_toArray, List.set_cons_succ, List.set_cons_zero]
        refine plan_read _ (hi_of HO rfl) rfl (fun w' hE => by (repeat (with_reducible replace hE := Ext.unD hE)); have hcE := hE.hc; clear hE; go_simp; rfl) ?_
        simp only [Act.put, List.setIfInBounds_toArray, List.set_cons_succ, List.set_cons_zero]
        refine plan_read _ (hi_of HO rfl) (by rw [HO.out]; rfl) (fun w' hE => by (repeat (with_reducible replace hE := Ext.unD hE)); have hcE := hE.hc; clear hE; go_simp; rfl) ?_
        simp only [Act.put, List.setIfInBounds_toArray, List.set_cons_succ, List.set_cons_zero]
        refine plan_read _ (hi_of HO rfl) (by rw [HO.out]; rfl) (fun w' hE => by (repeat (with_reducible replace hE := Ext.unD hE)); have hcE := hE.hc; clear hE; go_simp; rfl) ?_
        simp only [Act.put, List.setIfInBounds_toArray, List.set_cons_succ, List.set_cons_zero]
        refine plan_read _ (hi_of HO rfl) (by rw [HO.out]; rfl) (fun w' hE => by (repeat (with_reducible replace hE := Ext.unD hE)); have hcE := hE.hc; clear hE; go_simp; rfl) ?_
        simp only [Act.put, List.setIfInBounds_toArray, List.set_cons_succ, List.set_cons_zero]
        refine plan_read _ (hi_of HO rfl) (by rw [HO.out]; rfl) (fun w' hE => by (repeat (with_reducible replace hE := Ext.unD hE)); have hcE := hE.hc; clear hE; go_simp; rfl) ?_
        simp only [Act.put, List.setIfInBounds_toArray, List.set_cons_succ, List.set_cons_zero]
        refine plan_read _ (hi_of HO rfl) (by rw [HO.out]; rfl) (fun w' hE => by (repeat (with_reducible replace hE := Ext.unD hE)); have hcE := hE.hc; clear hE; go_simp; rfl) ?_
        simp only [Act.put, List.setIfInBounds_toArray, List.set_cons_succ, List.set_cons_zero]
        refine plan_skip (hi_of HO rfl) (by rw [HO.out]; rfl) ?_
        simp only [Act.put, List.setIfInBounds_toArray, List.set_cons_succ, List.set_cons_zero]
        refine plan_skip (hi_of HO rfl) (by rw [HO.out]; rfl) ?_
        simp only [Act.put, List.setIfInBounds_toArray, List.set_cons_succ, List.set_cons_zero]
        refine plan_skip (hi_of HO rfl) (by rw [HO.out]; rfl) ?_
        simp only [Act.put, List.setIfInBounds_toArray, List.set_cons_succ, List.set_cons_zero]
        refine plan_skip (hi_of HO rfl) (by rw [HO.out]; rfl) ?_
        simp only [Act.put, List.setIfInBounds_toArray, List.set_cons_succ, List.set_cons_zero]
        refine plan_skip (hi_of HO rfl) (by rw [HO.out]; rfl) ?_
        simp only [Act.put, List.setIfInBounds_toArray, List.set_cons_succ, List.set_cons_zero]
        refine plan_skip (hi_of HO rfl) (by rw [HO.out]; rfl) ?_
        simp only [Act.put, List.setIfInBounds_toArray, List.set_cons_succ, List.set_cons_zero]
        refine plan_skip (hi_of HO rfl) (by rw [HO.out]; rfl) ?_
        simp only [Act.put, List.setIfInBounds_toArray, List.set_cons_succ, List.set_cons_zero]
        refine plan_skip (hi_of HO rfl) (by rw [HO.out]; rfl) ?_
        simp only [Act.put, List.setIfInBounds_toArray, List.set_cons_succ, List.set_cons_zero]
        refine plan_skip (hi_of HO rfl) (by rw [HO.out]; rfl) ?_
        simp only [Act.put, List.setIfInBounds_toArray, List.set_cons_succ, List.set_cons_zero]
        refine plan_skip (hi_of HO rfl) (by rw [HO.out]; rfl) ?_
        simp only [Act.put, List.setIfInBounds_toArray, List.set_cons_succ, List.set_cons_zero]
        refine plan_skip (hi_of HO rfl) (by rw [HO.out]; rfl) ?_
        simp only [Act.put, List.setIfInBounds_toArray, List.set_cons_succ, List.set_cons_zero]
        refine plan_read _ (hi_of HO rfl) (by rw [HO.out]; rfl) (fun w' hE => by (repeat (with_reducible replace hE := Ext.unD hE)); have hcE := hE.hc; clear hE; go_simp; rfl) ?_
        simp only [Act.put, List.setIfInBounds_toArray, List.set_cons_succ, List.set_cons_zero]
        refine plan_read _ (hi_of HO rfl) rfl (fun w' hE => by (repeat (with_reducible replace hE := Ext.unD hE)); have hcE := hE.hc; clear hE; go_simp; rfl) ?_
        simp only [Act.put, List.setIfInBounds_toArray, List.set_cons_succ, List.set_cons_zero]
        refine plan_read _ (hi_of HO rfl) rfl (fun w' hE => by (repeat (with_reducible replace hE := Ext.unD hE)); have hcE := hE.hc; clear hE; go_simp; rfl) ?_
        simp only [Act.put, List.setIfInBounds_toArray, List.set_cons_succ, List.set_cons_zero]
        refine plan_done ?fin108
        gi_wp2
        refine wpIn_wide.2 ?_
        refine wp_region_held_below (fun _ => true) (.quiet 0 (.quiet 1 (.quiet 2 (.quiet 3 (.quiet 4 (.quiet 5 (.quiet 6 (.quiet 7 (.quiet 8 (.quiet 9 (.quiet 10 (.quiet 11 (.quiet 12 (.quiet 13 (.quiet 14 (.quiet 15 (.quiet 16 (.quiet 17 .done)))))))))))))))))) (by kernel_rfl) (by kernel_rfl) (by intro c a w d v h; cases d <;> exact h) (fun ops HO => ?_)
        refine plan_read _ (hi_of HO rfl) rfl (fun w' hE => by (repeat (with_reducible replace hE := Ext.unD hE)); have hcE := hE.hc; clear hE; go_simp; rfl) ?_
        simp only [Act.put, List.setIfInBounds_toArray, List.set_cons_succ, List.set_cons_zero]
        refine plan_read _ (hi_of HO rfl) rfl (fun w' hE => by (repeat (with_reducible replace hE := Ext.unD hE)); have hcE := hE.hc; clear hE; go_simp; rfl) ?_
        simp only [Act.put, List.setIfInBounds_toArray, List.set_cons_succ, List.set_cons_zero]
        refine plan_read _ (hi_of HO rfl) rfl (fun w' hE => by (repeat (with_reducible replace hE := Ext.unD hE)); have hcE := hE.hc; clear hE; go_simp; rfl) ?_
        simp only [Act.put, List.setIfInBounds_toArray, List.set_cons_succ, List.set_cons_zero]
        refine plan_read _ (hi_of HO rfl) rfl (fun w' hE => by (repeat (with_reducible replace hE := Ext.unD hE)); have hcE := hE.hc; clear hE; go_simp; rfl) ?_
        simp only [Act.put, List.setIfInBounds_toArray, List.set_cons_succ, List.set_cons_zero]
        refine plan_read _ (hi_of HO rfl) rfl (fun w' hE => by (repeat (with_reducible replace hE := Ext.unD hE)); have hcE := hE.hc; clear hE; go_simp; rfl) ?_
        simp only [Act.put, List.setIfInBounds_toArray, List.set_cons_succ, List.set_cons_zero]
        refine plan_skip (hi_of HO rfl) (by rw [HO.out]; rfl) ?_
        simp only [Act.put, List.setIfInBounds_toArray, List.set_cons_succ, List.set_cons_zero]
        refine plan_skip (hi_of HO rfl) (by rw [HO.out]; rfl) ?_
        simp only [Act.put, List.setIfInBounds_toArray, List.set_cons_succ, List.set_cons_zero]
        refine plan_skip (hi_of HO rfl) (by rw [HO.out]; rfl) ?_
        simp only [Act.put, List.setIfInBounds_toArray, List.set_cons_succ, List.set_cons_zero]
        refine plan_skip (hi_of HO rfl) (by rw [HO.out]; rfl) ?_
        simp only [Act.put, List.setIfInBounds_toArray, List.set_cons_succ, List.set_cons_zero]
        refine plan_skip (hi_of HO rfl) (by rw [HO.out]; rfl) ?_
        simp only [Act.put, List.setIfInBounds_toArray, List.set_cons_succ, List.set_cons_zero]
        refine plan_skip (hi_of HO rfl) (by rw [HO.out]; rfl) ?_
        simp only [Act.put, List.setIfInBounds_toArray, List.set_cons_succ, List.set_cons_zero]
        refine plan_skip (hi_of HO rfl) (by rw [HO.out]; rfl) ?_
        simp only [Act.put, List.setIfInBounds_toArray, List.set_cons_succ, List.set_cons_zero]
        refine plan_skip (hi_of HO rfl) (by rw [HO.out]; rfl) ?_
        simp only [Act.put, List.setIfInBounds_toArray, List.set_cons_succ, List.set_cons_zero]
        refine plan_skip (hi_of HO rfl) (by rw [HO.out]; rfl) ?_
        simp only [Act.put, List.setIfInBounds_toArray, List.set_cons_succ, List.set_cons_zero]
        refine plan_skip (hi_of HO rfl) (by rw [HO.out]; rfl) ?_
        simp only [Act.put, List.setIfInBounds_toArray, List.set_cons_succ, List.set_cons_zero]
        refine plan_skip (hi_of HO rfl) (by rw [HO.out]; rfl) ?_
        simp only [Act.put, List.setIfInBounds_toArray, List.set_cons_succ, List.set_cons_zero]
        refine plan_read _ (hi_of HO rfl) rfl (fun w' hE => by (repeat (with_reducible replace hE := Ext.unD hE)); have hcE := hE.hc; clear hE; go_simp; rfl) ?_
        simp only [Act.put, List.setIfInBounds_toArray, List.set_cons_succ, List.set_cons_zero]
        refine plan_read _ (hi_of HO rfl) rfl (fun w' hE => by (repeat (with_reducible replace hE := Ext.unD hE)); have hcE := hE.hc; clear hE; go_simp; rfl) ?_
        simp only [Act.put, List.setIfInBounds_toArray, List.set_cons_succ, List.set_cons_zero]
        refine plan_done ?fin109
        gi_wp2
        refine gen_run (fun W => Ext wr W) (by (repeat (first | exact Ext.refl _ | apply Ext.drew_left | apply Ext.drew | apply Ext.alloc))) ?_
        intro W6 hx6
        have HPN := hid_mk (show pre ++ [(zE, y)] ++ prs (a.drop (a.length)) (b.drop (q + 1)) = prs a b by rw [← HPRE.out, List.append_assoc]; congr 1; symm; rw [HDX.out, HDY.out, prs_nc] <;> rfl)
        have hJ6 : J pre W6 := hJa pre wr W6 none (HJ.out) (grown_of_ext hx6 none) (by simp)
        have hlen : pre.length < (prs a b).length := by rw [← HPN.out]; simp
        obtain ⟨fn, tmps, assign, body, hyd, hR⟩ := hY pre (zE, y) W6 hJ6 hlen
        have HB6 := hid_mk (hnx.trans (BelowX.of (hx6.below.mono hnx.size)))
        dsimp only [encP, entV, zE] at hyd
        rw [hyd]
        clear hyd hJ6 hlen hx6
        gi_wp2_with fail
        refine hR.mono ?_
        rintro e W3 (⟨rfl, hJ3, hk3⟩ | ⟨rfl, hJx3⟩)
        · gi_wp2
          go_roundw
          case rel => exact ⟨a.length, q + 1, by first | rfl | exact congrArg (Value.int .i64) HWP.out, by first | rfl | exact congrArg (Value.int .i64) HWQ.out, by omega, by omega, ⟨_, HPN.out, hJ3⟩, HB6.out.trans hk3⟩
          case measure => (try simp only [HWP.out]); (try simp only [HWQ.out]); simp [intOf]; omega
        · gi_wp2
          rw [Exit.noGoto_ret]
          refine bodyPost_ret (results_none rfl _ _ _) rfl ?_
          exact ⟨⟨_, rfl⟩, .inr ⟨_, ⟨_, HPN.out⟩, hJx3⟩⟩
      · obtain rfl : q = b.length := by omega
        have HDY := hid_mk (List.drop_length (l := b))
        have HPN := hid_mk (show pre = prs a b by rw [← HPRE.out, HDX.out, HDY.out, prs_nn, List.append_nil])
        have hJ6 : J pre ((wr.alloc (.cells #[.string ⟨#[]⟩, .int .i64 0, .int .i64 0, .string ⟨#[]⟩, .bool false] 57)).alloc (.cells #[.string ⟨#[]⟩, .int .i64 0, .int .i64 0, .string ⟨#[]⟩, .bool false] 57)) := hJa pre wr _ none (HJ.out) (grown_of_ext (by (repeat (first | exact Ext.refl _ | apply Ext.drew_left | apply Ext.drew | apply Ext.alloc))) none) (by simp)
        gi_wp2
        rw [Exit.noGoto_normal]
        go_end0
        exact ⟨⟨_, rfl⟩, .inl ⟨_, HPN.out, hJ6⟩⟩
theorem pairs_stopsX (L : List Nat) (ab bb : Nat) (av bv : Value) (a b : List Ent) (w : World) (hab : w.cell? ⟨ab, 0, none⟩ = some av) (hbb : w.cell? ⟨bb, 0, none⟩ = some bv) (hsa : EntSl w av a) (hsb : EntSl w bv b)
    (haL : ab ∉ L) (hbL : bb ∉ L) (haw : ∀ b o n c, av = .slice (some ⟨b, o, none⟩) n c → 0 < n → b ∉ L) (hbw : ∀ b o n c, bv = .slice (some ⟨b, o, none⟩) n c → 0 < n → b ∉ L) :
    SeqStopsK Fence.wide 4 Tryd.prog 149 #[.pointer (some ⟨ab, 0, none⟩), .pointer (some ⟨bb, 0, none⟩)] encP (BelowX w.heap.size L) (IsPrs a b) (PrePrs a b) (prs a b).length w := fun lp J Jx W hW hJ hJx hY h0 =>
  pairsX L lp ab bb av bv a b J Jx w hY W hJ hab hbb hsa hsb (BelowX.of hW) haL hbL haw hbw h0
theorem pairsC (lp ab bb : Nat) (av bv : Value) (a b : List Ent) (J Jx : List (Ent × Ent) → World → Prop) (w : World)
    (hY : ∀ pre x W, J pre W → pre.length < (prs a b).length → YieldAt Fence.wide 3 Tryd.prog lp (encP x) W fun e W' =>
      (e = .returned (.bool true) ∧ J (pre ++ [x]) W' ∧ Below w.heap.size W W') ∨ (e = .returned (.bool false) ∧ Jx (pre ++ [x]) W'))
    (W : World) (hJa : AbidesFrom W.heap.size J) (hab : w.cell? ⟨ab, 0, none⟩ = some av) (hbb : w.cell? ⟨bb, 0, none⟩ = some bv) (hsa : EntSl w av a) (hsb : EntSl w bv b) (hW : Below w.heap.size w W) (h0 : J [] W) :
    CallsIn Fence.wide 4 Tryd.prog 149 #[.func (.yield lp) #[] #[], .pointer (some ⟨ab, 0, none⟩), .pointer (some ⟨bb, 0, none⟩)] W fun e W' => (∃ v, e = .returned v) ∧
      ((∃ ys, IsPrs a b ys ∧ J ys W') ∨ (∃ pre, PrePrs a b pre ∧ Jx pre W')) :=
  pairsX [] lp ab bb av bv a b J Jx w (fun pre x W h1 h2 => by
    obtain ⟨fn, tmps, assign, body, hyd, hR⟩ := hY pre x W h1 h2
    refine ⟨fn, tmps, assign, body, hyd, hR.mono ?_⟩
    rintro e W3 (⟨h3, h4, h5⟩ | h3)
    · exact .inl ⟨h3, h4, .of h5⟩
    · exact .inr h3) W hJa hab hbb hsa hsb (.of hW) (by simp) (by simp) (fun _ _ _ _ _ _ => by simp) (fun _ _ _ _ _ _ => by simp) h0
theorem pairs_stops (ab bb : Nat) (av bv : Value) (a b : List Ent) (w : World) (hab : w.cell? ⟨ab, 0, none⟩ = some av) (hbb : w.cell? ⟨bb, 0, none⟩ = some bv) (hsa : EntSl w av a) (hsb : EntSl w bv b) :
    SeqStopsK Fence.wide 4 Tryd.prog 149 #[.pointer (some ⟨ab, 0, none⟩), .pointer (some ⟨bb, 0, none⟩)] encP (Below w.heap.size) (IsPrs a b) (PrePrs a b) (prs a b).length w := fun lp J Jx W hW hJ hJx hY h0 =>
  pairsC lp ab bb av bv a b J Jx w hY W hJ hab hbb hsa hsb hW h0
end Go.Proofs.YtokcgnbjkbhmiaaDoor
