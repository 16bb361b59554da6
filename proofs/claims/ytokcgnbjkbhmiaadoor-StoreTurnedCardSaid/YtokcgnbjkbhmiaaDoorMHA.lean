/- Ghosts: entries as values; which of two is newer; lists that may be. -/
import Derived.Test.YtokcgnbjkbhmiaaDoorMPT
import Derived.Test.YtokcgnbjkbhmiaaDoorMF3
namespace Go.Proofs.YtokcgnbjkbhmiaaDoor
open Go.RowKit
set_option maxHeartbeats 4000000
set_option maxRecDepth 100000
set_option linter.unusedSimpArgs false
set_option linter.unusedVariables false
theorem en_iCompare : Enters Tryd.prog 105 := ⟨_, Tryd.func105, by kernel_rfl, rfl⟩
theorem en_r3Compare : Enters Tryd.prog 125 := ⟨_, Tryd.func125, by kernel_rfl, rfl⟩
theorem en_iNewer : Enters Tryd.prog 64 := ⟨_, Tryd.func64, by kernel_rfl, rfl⟩
theorem en_r3Newer : Enters Tryd.prog 90 := ⟨_, Tryd.func90, by kernel_rfl, rfl⟩
theorem en_mCheck : Enters Tryd.prog 92 := ⟨_, Tryd.func92, by kernel_rfl, rfl⟩
theorem en_r9Check : Enters Tryd.prog 85 := ⟨_, Tryd.func85, by kernel_rfl, rfl⟩
theorem en_mCheck2 : Enters Tryd.prog 138 := ⟨_, Tryd.func138, by kernel_rfl, rfl⟩
theorem en_r9Check2 : Enters Tryd.prog 87 := ⟨_, Tryd.func87, by kernel_rfl, rfl⟩
abbrev entV (e : Ent) : Value := .agg #[.string e.key, .int .i64 e.ctr, .int .i64 e.node, .string e.val, .bool e.dead]
def zE : Ent := ⟨⟨#[]⟩, 0, 0, ⟨#[]⟩, false⟩
theorem ent_ext {a b : Ent} (h0 : a.key.toList = b.key.toList) (h1 : a.ctr = b.ctr) (h2 : a.node = b.node) (h3 : a.val.toList = b.val.toList) (h4 : a.dead = b.dead) : a = b := by
  obtain ⟨a0, a1, a2, a3, a4⟩ := a
  obtain ⟨b0, b1, b2, b3, b4⟩ := b
  dsimp only at *
  rw [ba_ext h0, h1, h2, ba_ext h3, h4]
instance : DecidableEq Ent := fun a b =>
  if h : a.key.toList = b.key.toList ∧ a.ctr = b.ctr ∧ a.node = b.node ∧ a.val.toList = b.val.toList ∧ a.dead = b.dead then .isTrue (ent_ext h.1 h.2.1 h.2.2.1 h.2.2.2.1 h.2.2.2.2)
  else .isFalse fun e => h (by subst e; exact ⟨rfl, rfl, rfl, rfl, rfl⟩)
theorem eql_entE (w : World) (a b : Ent) : (binOp .eql 57 (entV a) (entV b)).run Tryd.prog w = .ok (.bool (decide (a = b))) w := by
  have e : decide (a = b) = decide (a.key.toList = b.key.toList ∧ a.ctr = b.ctr ∧ a.node = b.node ∧ a.val.toList = b.val.toList ∧ a.dead = b.dead) := by
    rw [decide_eq_decide]
    exact ⟨fun e => by subst e; exact ⟨rfl, rfl, rfl, rfl, rfl⟩, fun h => ent_ext h.1 h.2.1 h.2.2.1 h.2.2.2.1 h.2.2.2.2⟩
  rw [e]
  obtain ⟨a0, a1, a2, a3, a4⟩ := a
  obtain ⟨b0, b1, b2, b3, b4⟩ := b
  dsimp only [entV]
  go_simp
  by_cases h1 : a1 = b1 <;> by_cases h2 : a2 = b2 <;> by_cases h4 : a4 = b4 <;> by_cases h0 : a0.toList = b0.toList <;> by_cases h3 : a3.toList = b3.toList <;> simp [*]
theorem neq_entE (w : World) (a b : Ent) : (binOp .neq 57 (entV a) (entV b)).run Tryd.prog w = .ok (.bool (decide (¬ a = b))) w := by
  have e : decide (¬ a = b) = !decide (a.key.toList = b.key.toList ∧ a.ctr = b.ctr ∧ a.node = b.node ∧ a.val.toList = b.val.toList ∧ a.dead = b.dead) := by
    rw [decide_not]
    congr 1
    rw [decide_eq_decide]
    exact ⟨fun e => by subst e; exact ⟨rfl, rfl, rfl, rfl, rfl⟩, fun h => ent_ext h.1 h.2.1 h.2.2.1 h.2.2.2.1 h.2.2.2.2⟩
  rw [e]
  obtain ⟨a0, a1, a2, a3, a4⟩ := a
  obtain ⟨b0, b1, b2, b3, b4⟩ := b
  dsimp only [entV]
  go_simp
  by_cases h1 : a1 = b1 <;> by_cases h2 : a2 = b2 <;> by_cases h4 : a4 = b4 <;> by_cases h0 : a0.toList = b0.toList <;> by_cases h3 : a3.toList = b3.toList <;> simp [*]
def cmpV (c n c' n' : Int) : Int := firstNZ [cmpI c c', cmpI n n']
theorem cmpOr2 (b cap : Nat) (x y : Int) (w : World) (h0 : w.cell? ⟨b, 0, none⟩ = some (.int .i64 x)) (h1 : w.cell? ⟨b, 1, none⟩ = some (.int .i64 y)) :
    Calls Tryd.prog 132 #[.slice (some ⟨b, 0, none⟩) 2 cap] w fun e w' => e = .returned (.int .i64 (firstNZ [x, y])) ∧ w = w' :=
  cmpOr_any b 0 cap [x, y] w (by simp) (fun i hi => by
    match i, hi with
    | 0, _ => exact h0
    | 1, _ => exact h1)
theorem iCompare_any (c n c' n' : Int) (w : World) : Calls Tryd.prog 105 #[.agg #[.int .i64 c, .int .i64 n], .agg #[.int .i64 c', .int .i64 n']] w fun e w' => e = .returned (.int .i64 (cmpV c n c' n')) ∧ Ext w w' := by
  unfold cmpV
  go_enter Tryd.func105, Tryd.ntmps105
  go_wp2
  refine wp_region_held_below (fun _ => true) (.quiet 0 (.quiet 1 (.quiet 2 (.quiet 3 (.quiet 4 (.quiet 5 (.quiet 6 (.quiet 7 (.quiet 8 (.quiet 9 (.alt 10 (.quiet 11 (.quiet 12 .done)) .stop))))))))))) (by kernel_rfl) (by kernel_rfl) (by intro c a w d v h; cases d <;> exact h) (fun ops HO => ?_)
  refine plan_read _ (hi_of HO rfl) rfl (fun w' hE => by (repeat (with_reducible replace hE := Ext.unD hE)); have hcE := hE.hc; clear hE; go_simp; rfl) ?_
  simp only [Act.put, List.setIfInBounds_toArray, List.set_cons_succ, List.set_cons_zero]
  refine plan_read _ (hi_of HO rfl) rfl (fun w' hE => by (repeat (with_reducible replace hE := Ext.unD hE)); have hcE := hE.hc; clear hE; go_simp; rfl) ?_
  simp only [Act.put, List.setIfInBounds_toArray, List.set_cons_succ, List.set_cons_zero]
  refine plan_read _ (hi_of HO rfl) rfl (fun w' hE => by (repeat (with_reducible replace hE := Ext.unD hE)); have hcE := hE.hc; clear hE; go_simp; rfl) ?_
  simp only [Act.put, List.setIfInBounds_toArray, List.set_cons_succ, List.set_cons_zero]
  refine plan_read _ (hi_of HO rfl) rfl (fun w' hE => by (repeat (with_reducible replace hE := Ext.unD hE)); have hcE := hE.hc; clear hE; go_simp; rfl) ?_
  simp only [Act.put, List.setIfInBounds_toArray, List.set_cons_succ, List.set_cons_zero]
  refine plan_pure _ en_cmpCompare (hi_of HO rfl) rfl rfl (by go_simp; rfl) (fun w' hE => by exact cmpCompare_any _ _ _) ?_
  simp only [Act.put, List.setIfInBounds_toArray, List.set_cons_succ, List.set_cons_zero]
  refine plan_read _ (hi_of HO rfl) rfl (fun w' hE => by (repeat (with_reducible replace hE := Ext.unD hE)); have hcE := hE.hc; clear hE; go_simp; rfl) ?_
  simp only [Act.put, List.setIfInBounds_toArray, List.set_cons_succ, List.set_cons_zero]
  refine plan_read _ (hi_of HO rfl) rfl (fun w' hE => by (repeat (with_reducible replace hE := Ext.unD hE)); have hcE := hE.hc; clear hE; go_simp; rfl) ?_
  simp only [Act.put, List.setIfInBounds_toArray, List.set_cons_succ, List.set_cons_zero]
  refine plan_read _ (hi_of HO rfl) rfl (fun w' hE => by (repeat (with_reducible replace hE := Ext.unD hE)); have hcE := hE.hc; clear hE; go_simp; rfl) ?_
  simp only [Act.put, List.setIfInBounds_toArray, List.set_cons_succ, List.set_cons_zero]
  refine plan_read _ (hi_of HO rfl) rfl (fun w' hE => by (repeat (with_reducible replace hE := Ext.unD hE)); have hcE := hE.hc; clear hE; go_simp; rfl) ?_
  simp only [Act.put, List.setIfInBounds_toArray, List.set_cons_succ, List.set_cons_zero]
  refine plan_pure _ en_cmpCompare (hi_of HO rfl) rfl rfl (by go_simp; rfl) (fun w' hE => by exact cmpCompare_any _ _ _) ?_
  simp only [Act.put, List.setIfInBounds_toArray, List.set_cons_succ, List.set_cons_zero]
  refine plan_loud1 (hi_of HO rfl) rfl ?_
  go_simp
  refine ⟨by (repeat (first | exact Ext.refl _ | apply Ext.drew_left | apply Ext.drew | apply Ext.alloc)), ?_⟩
  refine plan_pure _ en_cmpOr (hi_of HO rfl) rfl rfl (by go_simp; rfl) (fun w' hE => by exact cmpOr2 _ _ _ _ _ (by have hcE := hE.hc; clear hE; go_simp; rfl) (by have hcE := hE.hc; clear hE; go_simp; rfl)) ?_
  simp only [Act.put, List.setIfInBounds_toArray, List.set_cons_succ, List.set_cons_zero]
  refine plan_read _ (hi_of HO rfl) rfl (fun w' hE => by (repeat (with_reducible replace hE := Ext.unD hE)); have hcE := hE.hc; clear hE; go_simp; rfl) ?_
  simp only [Act.put, List.setIfInBounds_toArray, List.set_cons_succ, List.set_cons_zero]
  refine plan_done ?fin101
  go_wp2
  go_ret
  exact ⟨rfl, by (repeat (first | exact Ext.refl _ | apply Ext.drew_left | apply Ext.drew | apply Ext.alloc))⟩
theorem r3Compare_any (c n c' n' : Int) (w : World) : Calls Tryd.prog 125 #[.agg #[.int .i64 c, .int .i64 n], .agg #[.int .i64 c', .int .i64 n']] w fun e w' => e = .returned (.int .i64 (cmpV c n c' n')) ∧ Ext w w' := by
  unfold cmpV
  go_enter Tryd.func125, Tryd.ntmps125
  go_wp2
  all_goals go_ret
  all_goals (refine ⟨?_, by (repeat (first | exact Ext.refl _ | apply Ext.drew_left | apply Ext.drew | apply Ext.alloc))⟩)
  all_goals (refine ret_int ?_; simp only [firstNZ, cmpI]; (repeat' split) <;> first | rfl | omega | (simp at *; omega))
def newer (a b : Ent) : Bool := decide (0 < cmpV a.ctr a.node b.ctr b.node)
theorem iNewer_any (a b : Ent) (w : World) : Calls Tryd.prog 64 #[entV a, entV b] w fun e w' => e = .returned (.bool (newer a b)) ∧ Ext w w' := by
  unfold newer
  obtain ⟨r, hr⟩ : ∃ r, cmpV a.ctr a.node b.ctr b.node = r := ⟨_, rfl⟩
  have HR := hid_mk hr
  rw [hr]
  clear hr
  go_enter Tryd.func64, Tryd.ntmps64
  go_wp2_with fail
  refine (iCompare_any a.ctr a.node b.ctr b.node _).mono ?_
  rintro e w1 ⟨rfl, hx⟩
  rw [HR.out]
  have HX := hid_mk (Ext.trans w _ _ (by (repeat (first | exact Ext.refl _ | apply Ext.drew_left | apply Ext.drew | apply Ext.alloc))) hx)
  clear hx
  go_wp2
  go_ret
  exact ⟨rfl, HX.out⟩
theorem r3Newer_any (a b : Ent) (w : World) : Calls Tryd.prog 90 #[entV a, entV b] w fun e w' => e = .returned (.bool (newer a b)) ∧ Ext w w' := by
  unfold newer
  obtain ⟨r, hr⟩ : ∃ r, cmpV a.ctr a.node b.ctr b.node = r := ⟨_, rfl⟩
  have HR := hid_mk hr
  rw [hr]
  clear hr
  go_enter Tryd.func90, Tryd.ntmps90
  go_wp2_with fail
  refine (r3Compare_any a.ctr a.node b.ctr b.node _).mono ?_
  rintro e w1 ⟨rfl, hx⟩
  rw [HR.out]
  have HX := hid_mk (Ext.trans w _ _ (by (repeat (first | exact Ext.refl _ | apply Ext.drew_left | apply Ext.drew | apply Ext.alloc))) hx)
  clear hx
  go_wp2
  go_ret
  exact ⟨rfl, HX.out⟩
abbrev eChk (e : Ent) : Int := entCheck e.key e.ctr e.node e.val e.dead
def mChkP : Option ByteArray → List Ent → Int
  | _, [] => 0
  | prev, e :: r => if eChk e ≠ 0 then eChk e else if (∃ k, prev = some k ∧ Op.bytesLess k.toList e.key.toList = false) then 90 else mChkP (some e.key) r
theorem mChk_drop (l : List Ent) (k : Nat) (h : k < l.length) (p : Option ByteArray) : mChkP p (l.drop k) =
    if eChk l[k] ≠ 0 then eChk l[k] else if (∃ q, p = some q ∧ Op.bytesLess q.toList l[k].key.toList = false) then 90 else mChkP (some l[k].key) (l.drop (k + 1)) := by
  rw [List.drop_eq_getElem_cons h]; rfl
def mChk (l : List Ent) : Int := mChkP none l
theorem mCheck_any (l : List Ent) (sv : Value) (w : World) (hs : EntSl w sv l) :
    Calls Tryd.prog 92 #[sv] w fun e w' => e = .returned (.int .i64 (mChk l)) ∧ Ext w w' := by
  obtain ⟨a, c, rfl, hlc, hc63, hcells⟩ := hs
  have HP : Hid (mChk l = mChkP none l) := rfl
  generalize mChk l = res at *
  have HC := hid_mk hcells
  clear hcells
  go_enter Tryd.func92, Tryd.ntmps92
  go_wp2
  go_loopw [8] (fun i wr => ∃ k : Nat, k ≤ l.length ∧ i = .int .i64 (k : Int) ∧ mChkP none l = mChkP (prevKey l k) (l.drop k) ∧ Ext w wr) (fun i _ => l.length - (intOf i).toNat)
  case atStart => exact ⟨0, Nat.zero_le _, rfl, by simp [prevKey], Ext.refl _⟩
  case round =>
    obtain ⟨k, hk, rfl, hf, hx⟩ := hrel
    have HF := hid_mk hf
    have HX := hid_mk hx
    clear hf hx
    by_cases hlt : k < l.length
    · skip
      obtain ⟨b, o, rfl, hcl⟩ := HC.out (by omega)
      have HL := hid_mk hcl
      obtain ⟨a0, a1, a2, a3, a4⟩ := (hcl k hlt).ext HX.out
      have hbl := cell_lt a0
      have HS := hid_mk (mChk_drop l k hlt (prevKey l k))
      obtain ⟨y, hy⟩ : ∃ y, l[k] = y := ⟨_, rfl⟩
      have HY := hid_mk hy
      rw [hy] at a0 a1 a2 a3 a4 HS
      have hk1 : (k : Int) < (l.length : Int) := by omega
      have hk0 : (0 : Int) ≤ (k : Int) := by omega
      have HW := hid_mk (show wrap64 ((k : Int) + 1) = (k : Int) + 1 from w64in (by omega))
      clear hcl hy
      go_wp2_with fail
      refine (iCheck_any _ _ _ _ _ _).mono ?_
      rintro e w1 ⟨rfl, hx1⟩
      have ax : w1.cell? ⟨wr.heap.size, 0, none⟩ = some (.string y.key) := cell_ext hx1 (by go_simp)
      have HX1 := hid_mk (Ext.trans _ _ _ (HX.out.alloc _) hx1)
      have haxl := cell_lt ax
      clear a0 a1 a2 a3 a4 hbl hx1
      obtain ⟨z, hz⟩ : ∃ z, entCheck y.key y.ctr y.node y.val y.dead = z := ⟨_, rfl⟩
      have HZ := hid_mk hz
      rw [hz]
      clear hz
      by_cases hz0 : z = 0
      · subst hz0
        rcases k with _ | m
        · go_wp2_with fail
          refine wp_region_held_below (fun _ => true) (.quiet 0 (.quiet 1 (.quiet 2 (.quiet 3 (.quiet 4 (.quiet 5 (.quiet 6 (.quiet 7 (.quiet 8 (.quiet 9 (.quiet 10 (.quiet 11 (.quiet 12 .done))))))))))))) (by kernel_rfl) (by kernel_rfl) (by intro c a w d v h; cases d <;> exact h) (fun ops HO => ?_)
          refine plan_read _ (hi_of HO rfl) rfl (fun w' hE => by (repeat (with_reducible replace hE := Ext.unD hE)); have hcE := hE.hc; clear hE; go_simp; rfl) ?_
          simp only [Act.put, List.setIfInBounds_toArray, List.set_cons_succ, List.set_cons_zero]
          refine plan_read _ (hi_of HO rfl) rfl (fun w' hE => by (repeat (with_reducible replace hE := Ext.unD hE)); have hcE := hE.hc; clear hE; go_simp; rfl) ?_
          simp only [Act.put, List.setIfInBounds_toArray, List.set_cons_succ, List.set_cons_zero]
          refine plan_read _ (hi_of HO rfl) rfl (fun w' hE => by (repeat (with_reducible replace hE := Ext.unD hE)); have hcE := hE.hc; clear hE; go_simp; rfl) ?_
          simp only [Act.put, List.setIfInBounds_toArray, List.set_cons_succ, List.set_cons_zero]
          refine plan_skip (hi_of HO rfl) (by rw [HO.out]; rfl) ?_
          simp only [Act.put, List.setIfInBounds_toArray, List.set_cons_succ, List.set_cons_zero]
          refine plan_skip (hi_of HO rfl) (by rw [HO.out]; rfl) ?_
          simp only [Act.put, List.setIfInBounds_toArray, List.set_cons_succ, List.set_cons_zero]
          refine plan_skip (hi_of HO rfl) (by rw [HO.out]; rfl) ?_
          simp only [Act.put, List.setIfInBounds_toArray, List.set_cons_succ, List.set_cons_zero]
          refine plan_skip (hi_of HO rfl) (by rw [HO.out]; rfl) ?_
          simp only [Act.put, List.setIfInBounds_toArray, List.set_cons_succ, List.set_cons_zero]
          refine plan_skip (hi_of HO rfl) (by rw [HO.out]; rfl) ?_
          simp only [Act.put, List.setIfInBounds_toArray, List.set_cons_succ, List.set_cons_zero]
          refine plan_skip (hi_of HO rfl) (by rw [HO.out]; rfl) ?_
          simp only [Act.put, List.setIfInBounds_toArray, List.set_cons_succ, List.set_cons_zero]
          refine plan_skip (hi_of HO rfl) (by rw [HO.out]; rfl) ?_
          simp only [Act.put, List.setIfInBounds_toArray, List.set_cons_succ, List.set_cons_zero]
          refine plan_skip (hi_of HO rfl) (by rw [HO.out]; rfl) ?_
          simp only [Act.put, List.setIfInBounds_toArray, List.set_cons_succ, List.set_cons_zero]
          refine plan_skip (hi_of HO rfl) (by rw [HO.out]; rfl) ?_
          simp only [Act.put, List.setIfInBounds_toArray, List.set_cons_succ, List.set_cons_zero]
          refine plan_read _ (hi_of HO rfl) rfl (fun w' hE => by (repeat (with_reducible replace hE := Ext.unD hE)); have hcE := hE.hc; clear hE; go_simp; rfl) ?_
          simp only [Act.put, List.setIfInBounds_toArray, List.set_cons_succ, List.set_cons_zero]
          refine plan_done ?fin102
          go_wp2
          go_roundw
          case rel => exact ⟨0 + 1, by omega, rfl, by rw [HF.out, HS.out, if_neg (by simp [HZ.out]), if_neg (by rintro ⟨q, h1, -⟩; cases h1), ← HY.out]; simp [prevKey, show 0 < l.length by omega], by first | exact HX1.out | exact Ext.drew HX1.out⟩
          case measure => simp [intOf]; omega
        · have hB := ((HL.out m (by omega)).ext HX1.out).c0
          have hbB := cell_lt hB
          have hlt2 : (0 : Int) < (m : Int) + 1 := by omega
          have hlt3 : (m : Int) < (l.length : Int) := by omega
          have hlt5 : (0 : Int) ≤ (m : Int) := by omega
          have hlt6 : (0 : Int) ≤ (m : Int) + 1 := by omega
          have hlt7 : (m : Int) + 1 < (l.length : Int) := by omega
          have hlt4 : wrap64 ((m : Int) + 1 - 1) = m := by rw [show (m : Int) + 1 - 1 = m by omega]; exact w64in (by omega)
          have hlt4' : IntKind.i64.wrap (m : Int) = m := wrapN m (by omega)
          have HI := hid_mk (show prevKey l (m + 1) = some l[m].key by simp [prevKey, show m < l.length by omega])
          obtain ⟨J, hJ⟩ : ∃ J, l[m].key = J := ⟨_, rfl⟩
          rw [hJ] at hB HI
          clear hJ
          have hcast : ((m + 1 : Nat) : Int) = (m : Int) + 1 := by omega
          rcases hq : Op.bytesLess J.toList y.key.toList with _ | _
          · have HQ := hid_mk hq
            go_wp2_with fail
            refine wp_region_held_below (fun _ => true) (.quiet 0 (.quiet 1 (.quiet 2 (.quiet 3 (.quiet 4 (.quiet 5 (.quiet 6 (.quiet 7 (.quiet 8 (.quiet 9 (.quiet 10 (.quiet 11 (.quiet 12 .done))))))))))))) (by kernel_rfl) (by kernel_rfl) (by intro c a w d v h; cases d <;> exact h) (fun ops HO => ?_)
            refine plan_read _ (hi_of HO rfl) rfl (fun w' hE => by (repeat (with_reducible replace hE := Ext.unD hE)); have hcE := hE.hc; clear hE; go_simp; rfl) ?_
            simp only [Act.put, List.setIfInBounds_toArray, List.set_cons_succ, List.set_cons_zero]
            refine plan_read _ (hi_of HO rfl) rfl (fun w' hE => by (repeat (with_reducible replace hE := Ext.unD hE)); have hcE := hE.hc; clear hE; go_simp; rfl) ?_
            simp only [Act.put, List.setIfInBounds_toArray, List.set_cons_succ, List.set_cons_zero]
            refine plan_read _ (hi_of HO rfl) rfl (fun w' hE => by (repeat (with_reducible replace hE := Ext.unD hE)); have hcE := hE.hc; clear hE; go_simp; rfl) ?_
            simp only [Act.put, List.setIfInBounds_toArray, List.set_cons_succ, List.set_cons_zero]
            refine plan_read _ (hi_of HO rfl) (by rw [HO.out]; rfl) (fun w' hE => by (repeat (with_reducible replace hE := Ext.unD hE)); have hcE := hE.hc; clear hE; go_simp; rfl) ?_
            simp only [Act.put, List.setIfInBounds_toArray, List.set_cons_succ, List.set_cons_zero]
            refine plan_read _ (hi_of HO rfl) (by rw [HO.out]; rfl) (fun w' hE => by (repeat (with_reducible replace hE := Ext.unD hE)); have hcE := hE.hc; clear hE; go_simp; rfl) ?_
            simp only [Act.put, List.setIfInBounds_toArray, List.set_cons_succ, List.set_cons_zero]
            refine plan_read _ (hi_of HO rfl) (by rw [HO.out]; rfl) (fun w' hE => by (repeat (with_reducible replace hE := Ext.unD hE)); have hcE := hE.hc; clear hE; go_simp; rfl) ?_
            simp only [Act.put, List.setIfInBounds_toArray, List.set_cons_succ, List.set_cons_zero]
            refine plan_read _ (hi_of HO rfl) (by rw [HO.out]; rfl) (fun w' hE => by (repeat (with_reducible replace hE := Ext.unD hE)); have hcE := hE.hc; clear hE; go_simp; rfl) ?_
            simp only [Act.put, List.setIfInBounds_toArray, List.set_cons_succ, List.set_cons_zero]
            refine plan_read _ (hi_of HO rfl) (by rw [HO.out]; rfl) (fun w' hE => by (repeat (with_reducible replace hE := Ext.unD hE)); have hcE := hE.hc; clear hE; go_simp; rfl) ?_
            simp only [Act.put, List.setIfInBounds_toArray, List.set_cons_succ, List.set_cons_zero]
            refine plan_read _ (hi_of HO rfl) (by rw [HO.out]; rfl) (fun w' hE => by (repeat (with_reducible replace hE := Ext.unD hE)); have hcE := hE.hc; clear hE; go_simp; rfl) ?_
            simp only [Act.put, List.setIfInBounds_toArray, List.set_cons_succ, List.set_cons_zero]
            refine plan_read _ (hi_of HO rfl) (by rw [HO.out]; rfl) (fun w' hE => by (repeat (with_reducible replace hE := Ext.unD hE)); have hcE := hE.hc; clear hE; go_simp; rfl) ?_
            simp only [Act.put, List.setIfInBounds_toArray, List.set_cons_succ, List.set_cons_zero]
            refine plan_read _ (hi_of HO rfl) (by rw [HO.out]; rfl) (fun w' hE => by (repeat (with_reducible replace hE := Ext.unD hE)); have hcE := hE.hc; clear hE; go_simp; rfl) ?_
            simp only [Act.put, List.setIfInBounds_toArray, List.set_cons_succ, List.set_cons_zero]
            refine plan_read _ (hi_of HO rfl) (by rw [HO.out]; rfl) (fun w' hE => by (repeat (with_reducible replace hE := Ext.unD hE)); have hcE := hE.hc; clear hE; go_simp; rfl) ?_
            simp only [Act.put, List.setIfInBounds_toArray, List.set_cons_succ, List.set_cons_zero]
            refine plan_read _ (hi_of HO rfl) rfl (fun w' hE => by (repeat (with_reducible replace hE := Ext.unD hE)); have hcE := hE.hc; clear hE; go_simp; rfl) ?_
            simp only [Act.put, List.setIfInBounds_toArray, List.set_cons_succ, List.set_cons_zero]
            refine plan_done ?fin103
            go_wp2
            go_ret
            exact ⟨ret_int (by rw [HP.out, HF.out, HS.out, if_neg (by simp [HZ.out]), if_pos ⟨_, HI.out, HQ.out⟩]), by first | exact HX1.out | exact Ext.drew HX1.out⟩
          · have HQ := hid_mk hq
            go_wp2_with fail
            refine wp_region_held_below (fun _ => true) (.quiet 0 (.quiet 1 (.quiet 2 (.quiet 3 (.quiet 4 (.quiet 5 (.quiet 6 (.quiet 7 (.quiet 8 (.quiet 9 (.quiet 10 (.quiet 11 (.quiet 12 .done))))))))))))) (by kernel_rfl) (by kernel_rfl) (by intro c a w d v h; cases d <;> exact h) (fun ops HO => ?_)
            refine plan_read _ (hi_of HO rfl) rfl (fun w' hE => by (repeat (with_reducible replace hE := Ext.unD hE)); have hcE := hE.hc; clear hE; go_simp; rfl) ?_
            simp only [Act.put, List.setIfInBounds_toArray, List.set_cons_succ, List.set_cons_zero]
            refine plan_read _ (hi_of HO rfl) rfl (fun w' hE => by (repeat (with_reducible replace hE := Ext.unD hE)); have hcE := hE.hc; clear hE; go_simp; rfl) ?_
            simp only [Act.put, List.setIfInBounds_toArray, List.set_cons_succ, List.set_cons_zero]
            refine plan_read _ (hi_of HO rfl) rfl (fun w' hE => by (repeat (with_reducible replace hE := Ext.unD hE)); have hcE := hE.hc; clear hE; go_simp; rfl) ?_
            simp only [Act.put, List.setIfInBounds_toArray, List.set_cons_succ, List.set_cons_zero]
            refine plan_read _ (hi_of HO rfl) (by rw [HO.out]; rfl) (fun w' hE => by (repeat (with_reducible replace hE := Ext.unD hE)); have hcE := hE.hc; clear hE; go_simp; rfl) ?_
            simp only [Act.put, List.setIfInBounds_toArray, List.set_cons_succ, List.set_cons_zero]
            refine plan_read _ (hi_of HO rfl) (by rw [HO.out]; rfl) (fun w' hE => by (repeat (with_reducible replace hE := Ext.unD hE)); have hcE := hE.hc; clear hE; go_simp; rfl) ?_
            simp only [Act.put, List.setIfInBounds_toArray, List.set_cons_succ, List.set_cons_zero]
            refine plan_read _ (hi_of HO rfl) (by rw [HO.out]; rfl) (fun w' hE => by (repeat (with_reducible replace hE := Ext.unD hE)); have hcE := hE.hc; clear hE; go_simp; rfl) ?_
            simp only [Act.put, List.setIfInBounds_toArray, List.set_cons_succ, List.set_cons_zero]
            refine plan_read _ (hi_of HO rfl) (by rw [HO.out]; rfl) (fun w' hE => by (repeat (with_reducible replace hE := Ext.unD hE)); have hcE := hE.hc; clear hE; go_simp; rfl) ?_
            simp only [Act.put, List.setIfInBounds_toArray, List.set_cons_succ, List.set_cons_zero]
            refine plan_read _ (hi_of HO rfl) (by rw [HO.out]; rfl) (fun w' hE => by (repeat (with_reducible replace hE := Ext.unD hE)); have hcE := hE.hc; clear hE; go_simp; rfl) ?_
            simp only [Act.put, List.setIfInBounds_toArray, List.set_cons_succ, List.set_cons_zero]
            refine plan_read _ (hi_of HO rfl) (by rw [HO.out]; rfl) (fun w' hE => by (repeat (with_reducible replace hE := Ext.unD hE)); have hcE := hE.hc; clear hE; go_simp; rfl) ?_
            simp only [Act.put, List.setIfInBounds_toArray, List.set_cons_succ, List.set_cons_zero]
            refine plan_read _ (hi_of HO rfl) (by rw [HO.out]; rfl) (fun w' hE => by (repeat (with_reducible replace hE := Ext.unD hE)); have hcE := hE.hc; clear hE; go_simp; rfl) ?_
            simp only [Act.put, List.setIfInBounds_toArray, List.set_cons_succ, List.set_cons_zero]
            refine plan_read _ (hi_of HO rfl) (by rw [HO.out]; rfl) (fun w' hE => by (repeat (with_reducible replace hE := Ext.unD hE)); have hcE := hE.hc; clear hE; go_simp; rfl) ?_
            simp only [Act.put, List.setIfInBounds_toArray, List.set_cons_succ, List.set_cons_zero]
            refine plan_read _ (hi_of HO rfl) (by rw [HO.out]; rfl) (fun w' hE => by (repeat (with_reducible replace hE := Ext.unD hE)); have hcE := hE.hc; clear hE; go_simp; rfl) ?_
            simp only [Act.put, List.setIfInBounds_toArray, List.set_cons_succ, List.set_cons_zero]
            refine plan_read _ (hi_of HO rfl) rfl (fun w' hE => by (repeat (with_reducible replace hE := Ext.unD hE)); have hcE := hE.hc; clear hE; go_simp; rfl) ?_
            simp only [Act.put, List.setIfInBounds_toArray, List.set_cons_succ, List.set_cons_zero]
            refine plan_done ?fin104
            go_wp2
            go_roundw
            case rel => exact ⟨m + 1 + 1, by omega, (by first | exact congrArg (Value.int .i64) HW.out | rfl), by rw [HF.out, HS.out, if_neg (by simp [HZ.out]), if_neg (by rintro ⟨q, h1, h2⟩; rw [HI.out] at h1; cases h1; rw [HQ.out] at h2; cases h2), ← HY.out]; simp [prevKey, show m + 1 < l.length by omega], by first | exact HX1.out | exact Ext.drew HX1.out⟩
            case measure => (try simp only [HW.out]); simp [intOf]; omega
      · go_wp2
        go_ret
        refine ⟨ret_int ?_, HX1.out⟩
        rw [HP.out, HF.out, HS.out, if_pos (by intro h; exact hz0 (HZ.out.symm.trans h))]
        exact HZ.out.symm
    · obtain rfl : k = l.length := by omega
      have HN := hid_mk (show mChkP none l = 0 by rw [HF.out, List.drop_length]; cases prevKey l l.length <;> rfl)
      have hmm : ¬ ((l.length : Nat) : Int) < (l.length : Int) := by omega
      go_wp2
      go_ret
      exact ⟨ret_int (by rw [HP.out, HN.out]), HX.out⟩
theorem r9Check_any (l : List Ent) (sv : Value) (w : World) (hs : EntSl w sv l) :
    Calls Tryd.prog 85 #[sv] w fun e w' => e = .returned (.int .i64 (mChk l)) ∧ Ext w w' := by
  obtain ⟨a, c, rfl, hlc, hc63, hcells⟩ := hs
  have HP : Hid (mChk l = mChkP none l) := rfl
  generalize mChk l = res at *
  have HC := hid_mk hcells
  clear hcells
  go_enter Tryd.func85, Tryd.ntmps85
  go_wp2
  go_loopw [3] (fun i wr => ∃ k : Nat, k ≤ l.length ∧ i = .int .i64 (k : Int) ∧ mChkP none l = mChkP (prevKey l k) (l.drop k) ∧ Ext w wr) (fun i _ => l.length - (intOf i).toNat)
  case atStart => exact ⟨0, Nat.zero_le _, rfl, by simp [prevKey], Ext.refl _⟩
  case round =>
    obtain ⟨k, hk, rfl, hf, hx⟩ := hrel
    have HF := hid_mk hf
    have HX := hid_mk hx
    clear hf hx
    by_cases hlt : k < l.length
    · skip
      obtain ⟨b, o, rfl, hcl⟩ := HC.out (by omega)
      have HL := hid_mk hcl
      obtain ⟨a0, a1, a2, a3, a4⟩ := (hcl k hlt).ext HX.out
      have hbl := cell_lt a0
      have HS := hid_mk (mChk_drop l k hlt (prevKey l k))
      obtain ⟨y, hy⟩ : ∃ y, l[k] = y := ⟨_, rfl⟩
      have HY := hid_mk hy
      rw [hy] at a0 a1 a2 a3 a4 HS
      have hk1 : (k : Int) < (l.length : Int) := by omega
      have hk0 : (0 : Int) ≤ (k : Int) := by omega
      have HW := hid_mk (show wrap64 ((k : Int) + 1) = (k : Int) + 1 from w64in (by omega))
      clear hcl hy
      go_wp2_with fail
      refine (r3Check_any _ _ _ _ _ _).mono ?_
      rintro e w1 ⟨rfl, hx1⟩
      have HX1 := hid_mk (Ext.trans _ _ _ HX.out hx1)
      have ax := ((HL.out k hlt).ext HX1.out).c0
      rw [HY.out] at ax
      have haxl := cell_lt ax
      clear a0 a1 a2 a3 a4 hbl hx1
      obtain ⟨z, hz⟩ : ∃ z, entCheck y.key y.ctr y.node y.val y.dead = z := ⟨_, rfl⟩
      have HZ := hid_mk hz
      rw [hz]
      clear hz
      by_cases hz0 : z = 0
      · subst hz0
        rcases k with _ | m
        · go_wp2_with fail
          refine wp_region_held_below (fun _ => true) (.quiet 0 (.quiet 1 (.quiet 2 (.quiet 3 (.quiet 4 (.quiet 5 (.quiet 6 (.quiet 7 (.quiet 8 (.quiet 9 (.quiet 10 (.quiet 11 (.quiet 12 (.quiet 13 (.quiet 14 (.quiet 15 .done)))))))))))))))) (by kernel_rfl) (by kernel_rfl) (by intro c a w d v h; cases d <;> exact h) (fun ops HO => ?_)
          refine plan_read _ (hi_of HO rfl) rfl (fun w' hE => by (repeat (with_reducible replace hE := Ext.unD hE)); have hcE := hE.hc; clear hE; go_simp; rfl) ?_
          simp only [Act.put, List.setIfInBounds_toArray, List.set_cons_succ, List.set_cons_zero]
          refine plan_read _ (hi_of HO rfl) rfl (fun w' hE => by (repeat (with_reducible replace hE := Ext.unD hE)); have hcE := hE.hc; clear hE; go_simp; rfl) ?_
          simp only [Act.put, List.setIfInBounds_toArray, List.set_cons_succ, List.set_cons_zero]
          refine plan_read _ (hi_of HO rfl) rfl (fun w' hE => by (repeat (with_reducible replace hE := Ext.unD hE)); have hcE := hE.hc; clear hE; go_simp; rfl) ?_
          simp only [Act.put, List.setIfInBounds_toArray, List.set_cons_succ, List.set_cons_zero]
          refine plan_skip (hi_of HO rfl) (by rw [HO.out]; rfl) ?_
          simp only [Act.put, List.setIfInBounds_toArray, List.set_cons_succ, List.set_cons_zero]
          refine plan_skip (hi_of HO rfl) (by rw [HO.out]; rfl) ?_
          simp only [Act.put, List.setIfInBounds_toArray, List.set_cons_succ, List.set_cons_zero]
          refine plan_skip (hi_of HO rfl) (by rw [HO.out]; rfl) ?_
          simp only [Act.put, List.setIfInBounds_toArray, List.set_cons_succ, List.set_cons_zero]
          refine plan_skip (hi_of HO rfl) (by rw [HO.out]; rfl) ?_
          simp only [Act.put, List.setIfInBounds_toArray, List.set_cons_succ, List.set_cons_zero]
          refine plan_skip (hi_of HO rfl) (by rw [HO.out]; rfl) ?_
          simp only [Act.put, List.setIfInBounds_toArray, List.set_cons_succ, List.set_cons_zero]
          refine plan_skip (hi_of HO rfl) (by rw [HO.out]; rfl) ?_
          simp only [Act.put, List.setIfInBounds_toArray, List.set_cons_succ, List.set_cons_zero]
          refine plan_skip (hi_of HO rfl) (by rw [HO.out]; rfl) ?_
          simp only [Act.put, List.setIfInBounds_toArray, List.set_cons_succ, List.set_cons_zero]
          refine plan_skip (hi_of HO rfl) (by rw [HO.out]; rfl) ?_
          simp only [Act.put, List.setIfInBounds_toArray, List.set_cons_succ, List.set_cons_zero]
          refine plan_skip (hi_of HO rfl) (by rw [HO.out]; rfl) ?_
          simp only [Act.put, List.setIfInBounds_toArray, List.set_cons_succ, List.set_cons_zero]
          refine plan_skip (hi_of HO rfl) (by rw [HO.out]; rfl) ?_
          simp only [Act.put, List.setIfInBounds_toArray, List.set_cons_succ, List.set_cons_zero]
          refine plan_skip (hi_of HO rfl) (by rw [HO.out]; rfl) ?_
          simp only [Act.put, List.setIfInBounds_toArray, List.set_cons_succ, List.set_cons_zero]
          refine plan_skip (hi_of HO rfl) (by rw [HO.out]; rfl) ?_
          simp only [Act.put, List.setIfInBounds_toArray, List.set_cons_succ, List.set_cons_zero]
          refine plan_read _ (hi_of HO rfl) rfl (fun w' hE => by (repeat (with_reducible replace hE := Ext.unD hE)); have hcE := hE.hc; clear hE; go_simp; rfl) ?_
          simp only [Act.put, List.setIfInBounds_toArray, List.set_cons_succ, List.set_cons_zero]
          refine plan_done ?fin105
          go_wp2
          go_roundw
          case rel => exact ⟨0 + 1, by omega, rfl, by rw [HF.out, HS.out, if_neg (by simp [HZ.out]), if_neg (by rintro ⟨q, h1, -⟩; cases h1), ← HY.out]; simp [prevKey, show 0 < l.length by omega], by first | exact HX1.out | exact Ext.drew HX1.out⟩
          case measure => simp [intOf]; omega
        · have hB := ((HL.out m (by omega)).ext HX1.out).c0
          have hbB := cell_lt hB
          have hlt2 : (0 : Int) < (m : Int) + 1 := by omega
          have hlt3 : (m : Int) < (l.length : Int) := by omega
          have hlt5 : (0 : Int) ≤ (m : Int) := by omega
          have hlt6 : (0 : Int) ≤ (m : Int) + 1 := by omega
          have hlt7 : (m : Int) + 1 < (l.length : Int) := by omega
          have hlt4 : wrap64 ((m : Int) + 1 - 1) = m := by rw [show (m : Int) + 1 - 1 = m by omega]; exact w64in (by omega)
          have hlt4' : IntKind.i64.wrap (m : Int) = m := wrapN m (by omega)
          have HI := hid_mk (show prevKey l (m + 1) = some l[m].key by simp [prevKey, show m < l.length by omega])
          obtain ⟨J, hJ⟩ : ∃ J, l[m].key = J := ⟨_, rfl⟩
          rw [hJ] at hB HI
          clear hJ
          have hcast : ((m + 1 : Nat) : Int) = (m : Int) + 1 := by omega
          rcases h1 : Op.bytesLess y.key.toList J.toList with _ | _
          · rcases h2 : (y.key.toList == J.toList) with _ | _
            · have HQ := hid_mk ((bl_triN _ _).1 ⟨h1, by simpa using h2⟩)
              go_wp2_with fail
              refine wp_region_held_below (fun _ => true) (.quiet 0 (.quiet 1 (.quiet 2 (.quiet 3 (.quiet 4 (.quiet 5 (.quiet 6 (.quiet 7 (.quiet 8 (.quiet 9 (.quiet 10 (.quiet 11 (.quiet 12 (.quiet 13 (.quiet 14 (.quiet 15 .done)))))))))))))))) (by kernel_rfl) (by kernel_rfl) (by intro c a w d v h; cases d <;> exact h) (fun ops HO => ?_)
              refine plan_read _ (hi_of HO rfl) rfl (fun w' hE => by (repeat (with_reducible replace hE := Ext.unD hE)); have hcE := hE.hc; clear hE; go_simp; rfl) ?_
              simp only [Act.put, List.setIfInBounds_toArray, List.set_cons_succ, List.set_cons_zero]
              refine plan_read _ (hi_of HO rfl) rfl (fun w' hE => by (repeat (with_reducible replace hE := Ext.unD hE)); have hcE := hE.hc; clear hE; go_simp; rfl) ?_
              simp only [Act.put, List.setIfInBounds_toArray, List.set_cons_succ, List.set_cons_zero]
              refine plan_read _ (hi_of HO rfl) rfl (fun w' hE => by (repeat (with_reducible replace hE := Ext.unD hE)); have hcE := hE.hc; clear hE; go_simp; rfl) ?_
              simp only [Act.put, List.setIfInBounds_toArray, List.set_cons_succ, List.set_cons_zero]
              refine plan_read _ (hi_of HO rfl) (by rw [HO.out]; rfl) (fun w' hE => by (repeat (with_reducible replace hE := Ext.unD hE)); have hcE := hE.hc; clear hE; go_simp; rfl) ?_
              simp only [Act.put, List.setIfInBounds_toArray, List.set_cons_succ, List.set_cons_zero]
              refine plan_read _ (hi_of HO rfl) (by rw [HO.out]; rfl) (fun w' hE => by (repeat (with_reducible replace hE := Ext.unD hE)); have hcE := hE.hc; clear hE; go_simp; rfl) ?_
              simp only [Act.put, List.setIfInBounds_toArray, List.set_cons_succ, List.set_cons_zero]
              refine plan_read _ (hi_of HO rfl) (by rw [HO.out]; rfl) (fun w' hE => by (repeat (with_reducible replace hE := Ext.unD hE)); have hcE := hE.hc; clear hE; go_simp; rfl) ?_
              simp only [Act.put, List.setIfInBounds_toArray, List.set_cons_succ, List.set_cons_zero]
              refine plan_read _ (hi_of HO rfl) (by rw [HO.out]; rfl) (fun w' hE => by (repeat (with_reducible replace hE := Ext.unD hE)); have hcE := hE.hc; clear hE; go_simp; rfl) ?_
              simp only [Act.put, List.setIfInBounds_toArray, List.set_cons_succ, List.set_cons_zero]
              refine plan_read _ (hi_of HO rfl) (by rw [HO.out]; rfl) (fun w' hE => by (repeat (with_reducible replace hE := Ext.unD hE)); have hcE := hE.hc; clear hE; go_simp; rfl) ?_
              simp only [Act.put, List.setIfInBounds_toArray, List.set_cons_succ, List.set_cons_zero]
              refine plan_read _ (hi_of HO rfl) (by rw [HO.out]; rfl) (fun w' hE => by (repeat (with_reducible replace hE := Ext.unD hE)); have hcE := hE.hc; clear hE; go_simp; rfl) ?_
              simp only [Act.put, List.setIfInBounds_toArray, List.set_cons_succ, List.set_cons_zero]
              refine plan_read _ (hi_of HO rfl) (by rw [HO.out]; rfl) (fun w' hE => by (repeat (with_reducible replace hE := Ext.unD hE)); have hcE := hE.hc; clear hE; go_simp; rfl) ?_
              simp only [Act.put, List.setIfInBounds_toArray, List.set_cons_succ, List.set_cons_zero]
              refine plan_read _ (hi_of HO rfl) (by rw [HO.out]; rfl) (fun w' hE => by (repeat (with_reducible replace hE := Ext.unD hE)); have hcE := hE.hc; clear hE; go_simp; rfl) ?_
              simp only [Act.put, List.setIfInBounds_toArray, List.set_cons_succ, List.set_cons_zero]
              refine plan_read _ (hi_of HO rfl) (by rw [HO.out]; rfl) (fun w' hE => by (repeat (with_reducible replace hE := Ext.unD hE)); have hcE := hE.hc; clear hE; go_simp; rfl) ?_
              simp only [Act.put, List.setIfInBounds_toArray, List.set_cons_succ, List.set_cons_zero]
              refine plan_read _ (hi_of HO rfl) (by rw [HO.out]; rfl) (fun w' hE => by (repeat (with_reducible replace hE := Ext.unD hE)); have hcE := hE.hc; clear hE; go_simp; rfl) ?_
              simp only [Act.put, List.setIfInBounds_toArray, List.set_cons_succ, List.set_cons_zero]
              refine plan_read _ (hi_of HO rfl) (by rw [HO.out]; rfl) (fun w' hE => by (repeat (with_reducible replace hE := Ext.unD hE)); have hcE := hE.hc; clear hE; go_simp; rfl) ?_
              simp only [Act.put, List.setIfInBounds_toArray, List.set_cons_succ, List.set_cons_zero]
              refine plan_read _ (hi_of HO rfl) (by rw [HO.out]; rfl) (fun w' hE => by (repeat (with_reducible replace hE := Ext.unD hE)); have hcE := hE.hc; clear hE; go_simp; rfl) ?_
              simp only [Act.put, List.setIfInBounds_toArray, List.set_cons_succ, List.set_cons_zero]
              refine plan_read _ (hi_of HO rfl) rfl (fun w' hE => by (repeat (with_reducible replace hE := Ext.unD hE)); have hcE := hE.hc; clear hE; go_simp; rfl) ?_
              simp only [Act.put, List.setIfInBounds_toArray, List.set_cons_succ, List.set_cons_zero]
              refine plan_done ?fin106
              go_wp2
              go_roundw
              case rel => exact ⟨m + 1 + 1, by omega, (by first | exact congrArg (Value.int .i64) HW.out | rfl), by rw [HF.out, HS.out, if_neg (by simp [HZ.out]), if_neg (by rintro ⟨q, h1, h2⟩; rw [HI.out] at h1; cases h1; rw [HQ.out] at h2; cases h2), ← HY.out]; simp [prevKey, show m + 1 < l.length by omega], by first | exact HX1.out | exact Ext.drew HX1.out⟩
              case measure => (try simp only [HW.out]); simp [intOf]; omega
            · have HQ := hid_mk ((bl_triP _ _).1 (.inr (by simpa using h2)))
              go_wp2_with fail
              refine wp_region_held_below (fun _ => true) (.quiet 0 (.quiet 1 (.quiet 2 (.quiet 3 (.quiet 4 (.quiet 5 (.quiet 6 (.quiet 7 (.quiet 8 (.quiet 9 (.quiet 10 (.quiet 11 (.quiet 12 (.quiet 13 (.quiet 14 (.quiet 15 .done)))))))))))))))) (by kernel_rfl) (by kernel_rfl) (by intro c a w d v h; cases d <;> exact h) (fun ops HO => ?_)
              refine plan_read _ (hi_of HO rfl) rfl (fun w' hE => by (repeat (with_reducible replace hE := Ext.unD hE)); have hcE := hE.hc; clear hE; go_simp; rfl) ?_
              simp only [Act.put, List.setIfInBounds_toArray, List.set_cons_succ, List.set_cons_zero]
              refine plan_read _ (hi_of HO rfl) rfl (fun w' hE => by (repeat (with_reducible replace hE := Ext.unD hE)); have hcE := hE.hc; clear hE; go_simp; rfl) ?_
              simp only [Act.put, List.setIfInBounds_toArray, List.set_cons_succ, List.set_cons_zero]
              refine plan_read _ (hi_of HO rfl) rfl (fun w' hE => by (repeat (with_reducible replace hE := Ext.unD hE)); have hcE := hE.hc; clear hE; go_simp; rfl) ?_
              simp only [Act.put, List.setIfInBounds_toArray, List.set_cons_succ, List.set_cons_zero]
              refine plan_read _ (hi_of HO rfl) (by rw [HO.out]; rfl) (fun w' hE => by (repeat (with_reducible replace hE := Ext.unD hE)); have hcE := hE.hc; clear hE; go_simp; rfl) ?_
              simp only [Act.put, List.setIfInBounds_toArray, List.set_cons_succ, List.set_cons_zero]
              refine plan_read _ (hi_of HO rfl) (by rw [HO.out]; rfl) (fun w' hE => by (repeat (with_reducible replace hE := Ext.unD hE)); have hcE := hE.hc; clear hE; go_simp; rfl) ?_
              simp only [Act.put, List.setIfInBounds_toArray, List.set_cons_succ, List.set_cons_zero]
              refine plan_read _ (hi_of HO rfl) (by rw [HO.out]; rfl) (fun w' hE => by (repeat (with_reducible replace hE := Ext.unD hE)); have hcE := hE.hc; clear hE; go_simp; rfl) ?_
              simp only [Act.put, List.setIfInBounds_toArray, List.set_cons_succ, List.set_cons_zero]
              refine plan_read _ (hi_of HO rfl) (by rw [HO.out]; rfl) (fun w' hE => by (repeat (with_reducible replace hE := Ext.unD hE)); have hcE := hE.hc; clear hE; go_simp; rfl) ?_
              simp only [Act.put, List.setIfInBounds_toArray, List.set_cons_succ, List.set_cons_zero]
              refine plan_read _ (hi_of HO rfl) (by rw [HO.out]; rfl) (fun w' hE => by (repeat (with_reducible replace hE := Ext.unD hE)); have hcE := hE.hc; clear hE; go_simp; rfl) ?_
              simp only [Act.put, List.setIfInBounds_toArray, List.set_cons_succ, List.set_cons_zero]
              refine plan_read _ (hi_of HO rfl) (by rw [HO.out]; rfl) (fun w' hE => by (repeat (with_reducible replace hE := Ext.unD hE)); have hcE := hE.hc; clear hE; go_simp; rfl) ?_
              simp only [Act.put, List.setIfInBounds_toArray, List.set_cons_succ, List.set_cons_zero]
              refine plan_read _ (hi_of HO rfl) (by rw [HO.out]; rfl) (fun w' hE => by (repeat (with_reducible replace hE := Ext.unD hE)); have hcE := hE.hc; clear hE; go_simp; rfl) ?_
              simp only [Act.put, List.setIfInBounds_toArray, List.set_cons_succ, List.set_cons_zero]
              refine plan_read _ (hi_of HO rfl) (by rw [HO.out]; rfl) (fun w' hE => by (repeat (with_reducible replace hE := Ext.unD hE)); have hcE := hE.hc; clear hE; go_simp; rfl) ?_
              simp only [Act.put, List.setIfInBounds_toArray, List.set_cons_succ, List.set_cons_zero]
              refine plan_read _ (hi_of HO rfl) (by rw [HO.out]; rfl) (fun w' hE => by (repeat (with_reducible replace hE := Ext.unD hE)); have hcE := hE.hc; clear hE; go_simp; rfl) ?_
              simp only [Act.put, List.setIfInBounds_toArray, List.set_cons_succ, List.set_cons_zero]
              refine plan_read _ (hi_of HO rfl) (by rw [HO.out]; rfl) (fun w' hE => by (repeat (with_reducible replace hE := Ext.unD hE)); have hcE := hE.hc; clear hE; go_simp; rfl) ?_
              simp only [Act.put, List.setIfInBounds_toArray, List.set_cons_succ, List.set_cons_zero]
              refine plan_read _ (hi_of HO rfl) (by rw [HO.out]; rfl) (fun w' hE => by (repeat (with_reducible replace hE := Ext.unD hE)); have hcE := hE.hc; clear hE; go_simp; rfl) ?_
              simp only [Act.put, List.setIfInBounds_toArray, List.set_cons_succ, List.set_cons_zero]
              refine plan_read _ (hi_of HO rfl) (by rw [HO.out]; rfl) (fun w' hE => by (repeat (with_reducible replace hE := Ext.unD hE)); have hcE := hE.hc; clear hE; go_simp; rfl) ?_
              simp only [Act.put, List.setIfInBounds_toArray, List.set_cons_succ, List.set_cons_zero]
              refine plan_read _ (hi_of HO rfl) rfl (fun w' hE => by (repeat (with_reducible replace hE := Ext.unD hE)); have hcE := hE.hc; clear hE; go_simp; rfl) ?_
              simp only [Act.put, List.setIfInBounds_toArray, List.set_cons_succ, List.set_cons_zero]
              refine plan_done ?fin107
              go_wp2
              go_ret
              exact ⟨ret_int (by rw [HP.out, HF.out, HS.out, if_neg (by simp [HZ.out]), if_pos ⟨_, HI.out, HQ.out⟩]), by first | exact HX1.out | exact Ext.drew HX1.out⟩
          · have HQ := hid_mk ((bl_triP _ _).1 (.inl h1))
            go_wp2_with fail
            refine wp_region_held_below (fun _ => true) (.quiet 0 (.quiet 1 (.quiet 2 (.quiet 3 (.quiet 4 (.quiet 5 (.quiet 6 (.quiet 7 (.quiet 8 (.quiet 9 (.quiet 10 (.quiet 11 (.quiet 12 (.quiet 13 (.quiet 14 (.quiet 15 .done)))))))))))))))) (by kernel_rfl) (by kernel_rfl) (by intro c a w d v h; cases d <;> exact h) (fun ops HO => ?_)
            refine plan_read _ (hi_of HO rfl) rfl (fun w' hE => by (repeat (with_reducible replace hE := Ext.unD hE)); have hcE := hE.hc; clear hE; go_simp; rfl) ?_
            simp only [Act.put, List.setIfInBounds_toArray, List.set_cons_succ, List.set_cons_zero]
            refine plan_read _ (hi_of HO rfl) rfl (fun w' hE => by (repeat (with_reducible replace hE := Ext.unD hE)); have hcE := hE.hc; clear hE; go_simp; rfl) ?_
            simp only [Act.put, List.setIfInBounds_toArray, List.set_cons_succ, List.set_cons_zero]
            refine plan_read _ (hi_of HO rfl) rfl (fun w' hE => by (repeat (with_reducible replace hE := Ext.unD hE)); have hcE := hE.hc; clear hE; go_simp; rfl) ?_
            simp only [Act.put, List.setIfInBounds_toArray, List.set_cons_succ, List.set_cons_zero]
            refine plan_read _ (hi_of HO rfl) (by rw [HO.out]; rfl) (fun w' hE => by (repeat (with_reducible replace hE := Ext.unD hE)); have hcE := hE.hc; clear hE; go_simp; rfl) ?_
            simp only [Act.put, List.setIfInBounds_toArray, List.set_cons_succ, List.set_cons_zero]
            refine plan_read _ (hi_of HO rfl) (by rw [HO.out]; rfl) (fun w' hE => by (repeat (with_reducible replace hE := Ext.unD hE)); have hcE := hE.hc; clear hE; go_simp; rfl) ?_
            simp only [Act.put, List.setIfInBounds_toArray, List.set_cons_succ, List.set_cons_zero]
            refine plan_read _ (hi_of HO rfl) (by rw [HO.out]; rfl) (fun w' hE => by (repeat (with_reducible replace hE := Ext.unD hE)); have hcE := hE.hc; clear hE; go_simp; rfl) ?_
            simp only [Act.put, List.setIfInBounds_toArray, List.set_cons_succ, List.set_cons_zero]
            refine plan_read _ (hi_of HO rfl) (by rw [HO.out]; rfl) (fun w' hE => by (repeat (with_reducible replace hE := Ext.unD hE)); have hcE := hE.hc; clear hE; go_simp; rfl) ?_
            simp only [Act.put, List.setIfInBounds_toArray, List.set_cons_succ, List.set_cons_zero]
            refine plan_read _ (hi_of HO rfl) (by rw [HO.out]; rfl) (fun w' hE => by (repeat (with_reducible replace hE := Ext.unD hE)); have hcE := hE.hc; clear hE; go_simp; rfl) ?_
            simp only [Act.put, List.setIfInBounds_toArray, List.set_cons_succ, List.set_cons_zero]
            refine plan_read _ (hi_of HO rfl) (by rw [HO.out]; rfl) (fun w' hE => by (repeat (with_reducible replace hE := Ext.unD hE)); have hcE := hE.hc; clear hE; go_simp; rfl) ?_
            simp only [Act.put, List.setIfInBounds_toArray, List.set_cons_succ, List.set_cons_zero]
            refine plan_read _ (hi_of HO rfl) (by rw [HO.out]; rfl) (fun w' hE => by (repeat (with_reducible replace hE := Ext.unD hE)); have hcE := hE.hc; clear hE; go_simp; rfl) ?_
            simp only [Act.put, List.setIfInBounds_toArray, List.set_cons_succ, List.set_cons_zero]
            refine plan_read _ (hi_of HO rfl) (by rw [HO.out]; rfl) (fun w' hE => by (repeat (with_reducible replace hE := Ext.unD hE)); have hcE := hE.hc; clear hE; go_simp; rfl) ?_
            simp only [Act.put, List.setIfInBounds_toArray, List.set_cons_succ, List.set_cons_zero]
            refine plan_read _ (hi_of HO rfl) (by rw [HO.out]; rfl) (fun w' hE => by (repeat (with_reducible replace hE := Ext.unD hE)); have hcE := hE.hc; clear hE; go_simp; rfl) ?_
            simp only [Act.put, List.setIfInBounds_toArray, List.set_cons_succ, List.set_cons_zero]
            refine plan_read _ (hi_of HO rfl) (by rw [HO.out]; rfl) (fun w' hE => by (repeat (with_reducible replace hE := Ext.unD hE)); have hcE := hE.hc; clear hE; go_simp; rfl) ?_
            simp only [Act.put, List.setIfInBounds_toArray, List.set_cons_succ, List.set_cons_zero]
            refine plan_read _ (hi_of HO rfl) (by rw [HO.out]; rfl) (fun w' hE => by (repeat (with_reducible replace hE := Ext.unD hE)); have hcE := hE.hc; clear hE; go_simp; rfl) ?_
            simp only [Act.put, List.setIfInBounds_toArray, List.set_cons_succ, List.set_cons_zero]
            refine plan_read _ (hi_of HO rfl) (by rw [HO.out]; rfl) (fun w' hE => by (repeat (with_reducible replace hE := Ext.unD hE)); have hcE := hE.hc; clear hE; go_simp; rfl) ?_
            simp only [Act.put, List.setIfInBounds_toArray, List.set_cons_succ, List.set_cons_zero]
            refine plan_read _ (hi_of HO rfl) rfl (fun w' hE => by (repeat (with_reducible replace hE := Ext.unD hE)); have hcE := hE.hc; clear hE; go_simp; rfl) ?_
            simp only [Act.put, List.setIfInBounds_toArray, List.set_cons_succ, List.set_cons_zero]
            refine plan_done ?fin108
            go_wp2
            go_ret
            exact ⟨ret_int (by rw [HP.out, HF.out, HS.out, if_neg (by simp [HZ.out]), if_pos ⟨_, HI.out, HQ.out⟩]), by first | exact HX1.out | exact Ext.drew HX1.out⟩
      · go_wp2
        go_ret
        refine ⟨ret_int ?_, HX1.out⟩
        rw [HP.out, HF.out, HS.out, if_pos (by intro h; exact hz0 (HZ.out.symm.trans h))]
        exact HZ.out.symm
    · obtain rfl : k = l.length := by omega
      have HN := hid_mk (show mChkP none l = 0 by rw [HF.out, List.drop_length]; cases prevKey l l.length <;> rfl)
      have hmm : ¬ ((l.length : Nat) : Int) < (l.length : Int) := by omega
      go_wp2
      go_ret
      exact ⟨ret_int (by rw [HP.out, HN.out]), HX.out⟩
theorem mCheck2_any (l l' : List Ent) (sv sv' : Value) (w : World) (hs : EntSl w sv l) (hs' : EntSl w sv' l') :
    Calls Tryd.prog 138 #[sv, sv'] w fun e w' => e = .returned (.int .i64 (if mChk l ≠ 0 then mChk l else mChk l')) ∧ Ext w w' := by
  have HS := hid_mk (And.intro hs hs')
  obtain ⟨res, hres⟩ : ∃ res, (if mChk l ≠ 0 then mChk l else mChk l') = res := ⟨_, rfl⟩
  have HRES := hid_mk hres
  rw [hres]
  clear hres
  obtain ⟨a, c, rfl, -⟩ := hs
  obtain ⟨a', c', rfl, -⟩ := hs'
  go_enter Tryd.func138, Tryd.ntmps138
  go_wp2_with fail
  refine (mCheck_any l _ _ HS.out.1).mono ?_
  rintro e w1 ⟨rfl, hx1⟩
  have HX1 := hid_mk hx1
  obtain ⟨z, hz⟩ : ∃ z, mChk l = z := ⟨_, rfl⟩
  have HZ := hid_mk hz
  rw [hz]
  clear hx1 hz
  by_cases h0 : z = 0
  · subst h0
    go_wp2_with fail
    refine (mCheck_any l' _ _ (HS.out.2.ext HX1.out)).mono ?_
    rintro e w2 ⟨rfl, hx2⟩
    have HX2 := hid_mk (Ext.trans _ _ _ HX1.out hx2)
    clear hx2
    go_wp2
    go_ret
    exact ⟨ret_int (by rw [← HRES.out, if_neg (by rw [HZ.out]; simp)]), HX2.out⟩
  · go_wp2
    go_ret
    exact ⟨ret_int (by rw [← HRES.out, if_pos (by rw [HZ.out]; exact h0), HZ.out]), HX1.out⟩
theorem r9Check2_any (l l' : List Ent) (sv sv' : Value) (w : World) (hs : EntSl w sv l) (hs' : EntSl w sv' l') :
    Calls Tryd.prog 87 #[sv, sv'] w fun e w' => e = .returned (.int .i64 (if mChk l ≠ 0 then mChk l else mChk l')) ∧ Ext w w' := by
  have HS := hid_mk (And.intro hs hs')
  obtain ⟨res, hres⟩ : ∃ res, (if mChk l ≠ 0 then mChk l else mChk l') = res := ⟨_, rfl⟩
  have HRES := hid_mk hres
  rw [hres]
  clear hres
  obtain ⟨a, c, rfl, -⟩ := hs
  obtain ⟨a', c', rfl, -⟩ := hs'
  go_enter Tryd.func87, Tryd.ntmps87
  go_wp2_with fail
  refine (r9Check_any l _ _ HS.out.1).mono ?_
  rintro e w1 ⟨rfl, hx1⟩
  have HX1 := hid_mk hx1
  obtain ⟨z, hz⟩ : ∃ z, mChk l = z := ⟨_, rfl⟩
  have HZ := hid_mk hz
  rw [hz]
  clear hx1 hz
  by_cases h0 : z = 0
  · subst h0
    go_wp2_with fail
    refine (r9Check_any l' _ _ (HS.out.2.ext HX1.out)).mono ?_
    rintro e w2 ⟨rfl, hx2⟩
    have HX2 := hid_mk (Ext.trans _ _ _ HX1.out hx2)
    clear hx2
    go_wp2
    go_ret
    exact ⟨ret_int (by rw [← HRES.out, if_neg (by rw [HZ.out]; simp)]), HX2.out⟩
  · go_wp2
    go_ret
    exact ⟨ret_int (by rw [← HRES.out, if_pos (by rw [HZ.out]; exact h0), HZ.out]), HX1.out⟩
end Go.Proofs.YtokcgnbjkbhmiaaDoor
