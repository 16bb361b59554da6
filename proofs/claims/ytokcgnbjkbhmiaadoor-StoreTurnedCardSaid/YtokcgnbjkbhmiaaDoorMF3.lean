/- Entries in memory; what is wrong with those of a part. -/
import Derived.Test.YtokcgnbjkbhmiaaDoorMF1
namespace Go.Proofs.YtokcgnbjkbhmiaaDoor
open Go.RowKit
set_option maxHeartbeats 4000000
set_option maxRecDepth 100000
set_option linter.unusedSimpArgs false
set_option linter.unusedVariables false
theorem en_ritems : Enters Tryd.prog 142 := ⟨_, Tryd.func142, by kernel_rfl, rfl⟩
theorem en_checkEntries : Enters Tryd.prog 118 := ⟨_, Tryd.func118, by kernel_rfl, rfl⟩
structure Ent where
  key : ByteArray
  ctr : Int
  node : Int
  val : ByteArray
  dead : Bool

/-- The entry's five cells lie at an address. -/
structure EntAt (w : World) (b o : Nat) (e : Ent) : Prop where
  c0 : w.cell? ⟨b, o, none⟩ = some (.string e.key)
  c1 : w.cell? ⟨b, o + 1, none⟩ = some (.int .i64 e.ctr)
  c2 : w.cell? ⟨b, o + 2, none⟩ = some (.int .i64 e.node)
  c3 : w.cell? ⟨b, o + 3, none⟩ = some (.string e.val)
  c4 : w.cell? ⟨b, o + 4, none⟩ = some (.bool e.dead)

theorem cell_lt {w : World} {b o : Nat} {v : Value} (h : w.cell? ⟨b, o, none⟩ = some v) : b < w.heap.size := World.block_lt_of_cell? w _ h
theorem cell_ext {w w' : World} (hx : Ext w w') {b o : Nat} {v : Value} (h : w.cell? ⟨b, o, none⟩ = some v) : w'.cell? ⟨b, o, none⟩ = some v := by rw [hx.hc b o (cell_lt h)]; exact h
theorem EntAt.ext {w w' : World} {b o : Nat} {e : Ent} (h : EntAt w b o e) (hx : Ext w w') : EntAt w' b o e :=
  ⟨cell_ext hx h.c0, cell_ext hx h.c1, cell_ext hx h.c2, cell_ext hx h.c3, cell_ext hx h.c4⟩

/-- A slice of entries, as it lies in memory. -/
def EntSl (w : World) (v : Value) (l : List Ent) : Prop :=
  ∃ a c, v = .slice a l.length c ∧ l.length ≤ c ∧ l.length ≤ 4611686018427387904 ∧ (0 < l.length → ∃ b o, a = some ⟨b, o, none⟩ ∧ ∀ i, (h : i < l.length) → EntAt w b (o + i * 5) l[i])
theorem EntSl.ext {w w' : World} {v : Value} {l : List Ent} (h : EntSl w v l) (hx : Ext w w') : EntSl w' v l := by
  obtain ⟨a, c, h1, h2, h3, h4⟩ := h
  exact ⟨a, c, h1, h2, h3, fun hp => let ⟨b, o, h5, h6⟩ := h4 hp; ⟨b, o, h5, fun i hi => (h6 i hi).ext hx⟩⟩

def itemsChk (lo hi : ByteArray) (op : Bool) : Option ByteArray → List Ent → Int
  | _, [] => 0
  | prev, e :: r => if entCheck e.key e.ctr e.node e.val e.dead ≠ 0 then entCheck e.key e.ctr e.node e.val e.dead
    else if rngHolds lo hi op e.key = false ∨ (∃ k, prev = some k ∧ Op.bytesLess k.toList e.key.toList = false) then 116 else itemsChk lo hi op (some e.key) r
def prevKey (l : List Ent) : Nat → Option ByteArray
  | 0 => none
  | k + 1 => (l[k]?).map (·.key)
theorem itemsChk_drop (lo hi : ByteArray) (op : Bool) (l : List Ent) (k : Nat) (h : k < l.length) (p : Option ByteArray) : itemsChk lo hi op p (l.drop k) =
    if entCheck l[k].key l[k].ctr l[k].node l[k].val l[k].dead ≠ 0 then entCheck l[k].key l[k].ctr l[k].node l[k].val l[k].dead
    else if rngHolds lo hi op l[k].key = false ∨ (∃ q, p = some q ∧ Op.bytesLess q.toList l[k].key.toList = false) then 116 else itemsChk lo hi op (some l[k].key) (l.drop (k + 1)) := by
  rw [List.drop_eq_getElem_cons h]; rfl
def partItems (kind : Int) (lo hi : ByteArray) (op : Bool) (l : List Ent) : Int :=
  if itemsChk lo hi op none l ≠ 0 then itemsChk lo hi op none l else if kind = 3 ∧ l.length = 0 then 116 else 0

theorem ritems_any (kind : Int) (lo hi : ByteArray) (op : Bool) (n s0 s1 : Int) (sv : Value) (l : List Ent) (w : World) (hs : EntSl w sv l) :
    Calls Tryd.prog 142 #[.agg #[.int .i64 kind, .string lo, .string hi, .bool op, .int .i64 n, .int .u64 s0, .int .u64 s1, sv]] w fun e w' => e = .returned (.int .i64 (partItems kind lo hi op l)) ∧ Ext w w' := by
  obtain ⟨a, c, rfl, hlc, hc63, hcells⟩ := hs
  have HP : Hid (partItems kind lo hi op l = if itemsChk lo hi op none l ≠ 0 then itemsChk lo hi op none l else if kind = 3 ∧ l.length = 0 then 116 else 0) := rfl
  generalize partItems kind lo hi op l = res at *
  have HC := hid_mk hcells
  clear hcells
  go_enter Tryd.func142, Tryd.ntmps142
  go_wp2
  go_loopw [3] (fun i wr => ∃ k : Nat, k ≤ l.length ∧ i = .int .i64 k ∧ itemsChk lo hi op none l = itemsChk lo hi op (prevKey l k) (l.drop k) ∧ Ext (w.alloc (.cells #[.int .i64 kind, .string lo, .string hi, .bool op, .int .i64 n, .int .u64 s0, .int .u64 s1, .slice a l.length c] 34)) wr) (fun i _ => l.length - (intOf i).toNat)
  case atStart => exact ⟨0, Nat.zero_le _, rfl, by simp [prevKey], Ext.refl _⟩
  case round =>
    obtain ⟨k, hk, rfl, hf, hx⟩ := hrel
    have HF := hid_mk hf
    clear hf
    have HX := hid_mk hx
    clear hx
    by_cases hlt : k < l.length
    · obtain ⟨b, o, rfl, hcl⟩ := HC.out (by omega)
      have HL := hid_mk hcl
      have hx0 := HX.out
      have hc0 := hx0.hc; have hl0 := hx0.hl; have he0 := hx0.hle; have hn0 := hx0.hne; replace hx0 := hid_mk hx0
      have hA := (hcl k hlt).ext (Ext.trans _ _ _ ((Ext.refl _).alloc _) HX.out)
      obtain ⟨a0, a1, a2, a3, a4⟩ := hA
      have HS := hid_mk (itemsChk_drop lo hi op l k hlt (prevKey l k))
      clear hcl
      go_wp2_with fail
      refine (r3Check_any _ _ _ _ _ _).mono ?_
      rintro e w1 ⟨rfl, hx1⟩
      clear a0 a1 a2 a3 a4 hc0 hl0 he0 hn0
      replace hx1 := Ext.trans _ _ _ HX.out hx1
      have hc1 := hx1.hc; have hl1 := hx1.hl; have he1 := hx1.hle; have hn1 := hx1.hne; replace hx1 := hid_mk hx1
      by_cases hz : entCheck l[k].key l[k].ctr l[k].node l[k].val l[k].dead = 0
      · have HZ := hid_mk hz
        rw [hz]
        clear hz
        have hA := (HL.out k hlt).ext (Ext.trans _ _ _ ((Ext.refl _).alloc _) hx1.out)
        have a0 := hA.c0
        have hbl := cell_lt a0
        clear hA
        have HT := hid_mk (show (rngHolds lo hi op l[k].key = false ∨ ∃ q, prevKey l k = some q ∧ Op.bytesLess q.toList l[k].key.toList = false) → itemsChk lo hi op none l = 116 from
          fun h => by rw [HF.out, HS.out, if_neg (by simp [HZ.out]), if_pos h])
        have HU := hid_mk (show rngHolds lo hi op l[k].key = true → (∀ q, prevKey l k = some q → Op.bytesLess q.toList l[k].key.toList = true) → itemsChk lo hi op none l = itemsChk lo hi op (prevKey l (k + 1)) (l.drop (k + 1)) from
          fun h h' => by
            rw [HF.out, HS.out, if_neg (by simp [HZ.out]), if_neg (by
              rintro (h1 | ⟨q, h1, h2⟩)
              · rw [h] at h1; cases h1
              · rw [h' q h1] at h2; cases h2)]
            simp [prevKey, hlt])
        generalize hK : l[k].key = K at *
        have HK := hid_mk hK
        clear hK
        rcases k with _ | m
        · simp only [Nat.zero_mul, Nat.add_zero] at a0
          go_wp2_with fail
          refine wp_region_held_below (fun _ => true) (.quiet 0 (.quiet 1 (.quiet 2 (.quiet 3 (.quiet 4 (.quiet 5 (.quiet 6 (.quiet 7 (.alt 8 (.quiet 9 (.quiet 10 (.quiet 11 (.quiet 12 (.quiet 13 (.quiet 14 (.quiet 15 (.quiet 16 (.quiet 17 (.quiet 18 (.quiet 19 (.quiet 20 (.quiet 21 (.quiet 22 (.quiet 23 (.quiet 24 (.quiet 25 (.quiet 26 (.quiet 27 (.quiet 28 (.quiet 29 .done))))))))))))))))))))) .stop))))))))) (by kernel_rfl) (by kernel_rfl) (by intro c a w d v h; cases d <;> exact h) (fun ops HO => ?_)
          refine plan_read _ (hi_of HO rfl) rfl (fun w' hE => by have hcE := (Ext.trans _ _ _ (by (repeat (first | exact hx1.out | apply Ext.drew | apply Ext.alloc))) hE).hc; (repeat (with_reducible replace hE := Ext.unD hE)); have hcF := hE.hc; clear hE; go_simp; rfl) ?_
          simp only [Act.put, List.setIfInBounds_toArray, List.set_cons_succ, List.set_cons_zero]
          refine plan_read _ (hi_of HO rfl) rfl (fun w' hE => by have hcE := (Ext.trans _ _ _ (by (repeat (first | exact hx1.out | apply Ext.drew | apply Ext.alloc))) hE).hc; (repeat (with_reducible replace hE := Ext.unD hE)); have hcF := hE.hc; clear hE; go_simp; rfl) ?_
          simp only [Act.put, List.setIfInBounds_toArray, List.set_cons_succ, List.set_cons_zero]
          refine plan_read _ (hi_of HO rfl) rfl (fun w' hE => by have hcE := (Ext.trans _ _ _ (by (repeat (first | exact hx1.out | apply Ext.drew | apply Ext.alloc))) hE).hc; (repeat (with_reducible replace hE := Ext.unD hE)); have hcF := hE.hc; clear hE; go_simp; rfl) ?_
          simp only [Act.put, List.setIfInBounds_toArray, List.set_cons_succ, List.set_cons_zero]
          refine plan_read _ (hi_of HO rfl) rfl (fun w' hE => by have hcE := (Ext.trans _ _ _ (by (repeat (first | exact hx1.out | apply Ext.drew | apply Ext.alloc))) hE).hc; (repeat (with_reducible replace hE := Ext.unD hE)); have hcF := hE.hc; clear hE; go_simp; rfl) ?_
          simp only [Act.put, List.setIfInBounds_toArray, List.set_cons_succ, List.set_cons_zero]
          refine plan_read _ (hi_of HO rfl) rfl (fun w' hE => by have hcE := (Ext.trans _ _ _ (by (repeat (first | exact hx1.out | apply Ext.drew | apply Ext.alloc))) hE).hc; (repeat (with_reducible replace hE := Ext.unD hE)); have hcF := hE.hc; clear hE; go_simp; rfl) ?_
          simp only [Act.put, List.setIfInBounds_toArray, List.set_cons_succ, List.set_cons_zero]
          refine plan_read _ (hi_of HO rfl) rfl (fun w' hE => by have hcE := (Ext.trans _ _ _ (by (repeat (first | exact hx1.out | apply Ext.drew | apply Ext.alloc))) hE).hc; (repeat (with_reducible replace hE := Ext.unD hE)); have hcF := hE.hc; clear hE; go_simp; rfl) ?_
          simp only [Act.put, List.setIfInBounds_toArray, List.set_cons_succ, List.set_cons_zero]
          refine plan_read _ (hi_of HO rfl) rfl (fun w' hE => by have hcE := (Ext.trans _ _ _ (by (repeat (first | exact hx1.out | apply Ext.drew | apply Ext.alloc))) hE).hc; (repeat (with_reducible replace hE := Ext.unD hE)); have hcF := hE.hc; clear hE; go_simp; rfl) ?_
          simp only [Act.put, List.setIfInBounds_toArray, List.set_cons_succ, List.set_cons_zero]
          refine plan_read _ (hi_of HO rfl) rfl (fun w' hE => by have hcE := (Ext.trans _ _ _ (by (repeat (first | exact hx1.out | apply Ext.drew | apply Ext.alloc))) hE).hc; (repeat (with_reducible replace hE := Ext.unD hE)); have hcF := hE.hc; clear hE; go_simp; rfl) ?_
          simp only [Act.put, List.setIfInBounds_toArray, List.set_cons_succ, List.set_cons_zero]
          refine plan_call1 en_r2Holds (hi_of HO rfl) rfl rfl (by go_simp; rfl) (by exact (r2Holds_any _ _ _ _ _)) ?_
          rintro e v101 ⟨rfl, hx101⟩
          refine ⟨_, rfl, fun _ => hx101, ?_⟩
          have hy101 := hid_mk (by first | (with_reducible exact Ext.unD hx101) | exact hx101 : Ext _ v101)
          replace hx101 := Ext.trans _ _ _ (by (repeat (first | exact hx1.out | apply Ext.drew | apply Ext.alloc))) hx101
          clear hc1 hl1 he1 hn1
          have hc101 := hx101.hc; have hl101 := hx101.hl; have he101 := hx101.hle; have hn101 := hx101.hne; replace hx101 := hid_mk hx101
          simp only [Act.put, List.setIfInBounds_toArray, List.set_cons_succ, List.set_cons_zero]
          refine plan_read _ (hi_of HO rfl) rfl (fun w' hE => by have hcE := (Ext.trans _ _ _ (by (repeat (first | exact hx101.out | apply Ext.drew | apply Ext.alloc))) hE).hc; (repeat (with_reducible replace hE := Ext.unD hE)); have hcF := hE.hc; clear hE; go_simp; rfl) ?_
          simp only [Act.put, List.setIfInBounds_toArray, List.set_cons_succ, List.set_cons_zero]
          refine plan_boolc _ (hi_of HO rfl) rfl (fun w' hE => by have hcE := (Ext.trans _ _ _ (by (repeat (first | exact hx101.out | apply Ext.drew | apply Ext.alloc))) hE).hc; (repeat (with_reducible replace hE := Ext.unD hE)); have hcF := hE.hc; clear hE; go_simp; rfl) (by rfl) ?hF102 ?hT102
          case' hF102 =>
            intro hb102
            simp only [Act.put, List.setIfInBounds_toArray, List.set_cons_succ, List.set_cons_zero]
            refine plan_read _ (hi_of HO rfl) (by rw [HO.out]; rfl) (fun w' hE => by have hcE := (Ext.trans _ _ _ (by (repeat (first | exact hx101.out | apply Ext.drew | apply Ext.alloc))) hE).hc; (repeat (with_reducible replace hE := Ext.unD hE)); have hcF := hE.hc; clear hE; go_simp; rfl) ?_
            simp only [Act.put, List.setIfInBounds_toArray, List.set_cons_succ, List.set_cons_zero]
            refine plan_read _ (hi_of HO rfl) (by rw [HO.out]; rfl) (fun w' hE => by have hcE := (Ext.trans _ _ _ (by (repeat (first | exact hx101.out | apply Ext.drew | apply Ext.alloc))) hE).hc; (repeat (with_reducible replace hE := Ext.unD hE)); have hcF := hE.hc; clear hE; go_simp; rfl) ?_
            simp only [Act.put, List.setIfInBounds_toArray, List.set_cons_succ, List.set_cons_zero]
            refine plan_read _ (hi_of HO rfl) (by rw [HO.out]; rfl) (fun w' hE => by have hcE := (Ext.trans _ _ _ (by (repeat (first | exact hx101.out | apply Ext.drew | apply Ext.alloc))) hE).hc; (repeat (with_reducible replace hE := Ext.unD hE)); have hcF := hE.hc; clear hE; go_simp; rfl) ?_
            simp only [Act.put, List.setIfInBounds_toArray, List.set_cons_succ, List.set_cons_zero]
            refine plan_skip (hi_of HO rfl) (by rw [HO.out]; rfl) ?_
            simp only [Act.put, List.setIfInBounds_toArray, List.set_cons_succ, List.set_cons_zero]
            refine plan_skip (hi_of HO rfl) (by rw [HO.out]; rfl) ?_
            simp only [Act.put, List.setIfInBounds_toArray, List.set_cons_succ, List.set_cons_zero]
            refine plan_skip (hi_of HO rfl) (by rw [HO.out]; rfl) ?_
            simp only [Act.put, List.setIfInBounds_toArray, List.set_cons_succ, List.set_cons_zero]
            refine plan_skip (hi_of HO rfl) (by rw [HO.out]; rfl) ?_
            simp only [Act.put, List.setIfInBounds_toArray, List.set_cons_succ, List.set_cons_zero]
            refine plan_skip (hi_of HO rfl) (by rw [HO.out]; rfl) ?_
            simp only [Act.put, List.setIfInBounds_toArray, List.set_cons_succ, List.set_cons_zero]
            refine plan_skip (hi_of HO rfl) (by rw [HO.out]; rfl) ?_
            simp only [Act.put, List.setIfInBounds_toArray, List.set_cons_succ, List.set_cons_zero]
            refine plan_skip (hi_of HO rfl) (by rw [HO.out]; rfl) ?_
            simp only [Act.put, List.setIfInBounds_toArray, List.set_cons_succ, List.set_cons_zero]
            refine plan_skip (hi_of HO rfl) (by rw [HO.out]; rfl) ?_
            simp only [Act.put, List.setIfInBounds_toArray, List.set_cons_succ, List.set_cons_zero]
            refine plan_skip (hi_of HO rfl) (by rw [HO.out]; rfl) ?_
            simp only [Act.put, List.setIfInBounds_toArray, List.set_cons_succ, List.set_cons_zero]
            refine plan_skip (hi_of HO rfl) (by rw [HO.out]; rfl) ?_
            simp only [Act.put, List.setIfInBounds_toArray, List.set_cons_succ, List.set_cons_zero]
            refine plan_skip (hi_of HO rfl) (by rw [HO.out]; rfl) ?_
            simp only [Act.put, List.setIfInBounds_toArray, List.set_cons_succ, List.set_cons_zero]
            refine plan_skip (hi_of HO rfl) (by rw [HO.out]; rfl) ?_
            simp only [Act.put, List.setIfInBounds_toArray, List.set_cons_succ, List.set_cons_zero]
            refine plan_skip (hi_of HO rfl) (by rw [HO.out]; rfl) ?_
            simp only [Act.put, List.setIfInBounds_toArray, List.set_cons_succ, List.set_cons_zero]
            refine plan_skip (hi_of HO rfl) (by rw [HO.out]; rfl) ?_
            simp only [Act.put, List.setIfInBounds_toArray, List.set_cons_succ, List.set_cons_zero]
            refine plan_read _ (hi_of HO rfl) (by rw [HO.out]; rfl) (fun w' hE => by have hcE := (Ext.trans _ _ _ (by (repeat (first | exact hx101.out | apply Ext.drew | apply Ext.alloc))) hE).hc; (repeat (with_reducible replace hE := Ext.unD hE)); have hcF := hE.hc; clear hE; go_simp; rfl) ?_
            simp only [Act.put, List.setIfInBounds_toArray, List.set_cons_succ, List.set_cons_zero]
            refine plan_read _ (hi_of HO rfl) rfl (fun w' hE => by have hcE := (Ext.trans _ _ _ (by (repeat (first | exact hx101.out | apply Ext.drew | apply Ext.alloc))) hE).hc; (repeat (with_reducible replace hE := Ext.unD hE)); have hcF := hE.hc; clear hE; go_simp; rfl) ?_
            simp only [Act.put, List.setIfInBounds_toArray, List.set_cons_succ, List.set_cons_zero]
            refine plan_done ?fin103
          case' hT102 =>
            intro hb102
            simp only [Act.put, List.setIfInBounds_toArray, List.set_cons_succ, List.set_cons_zero]
            refine plan_skip (hi_of HO rfl) (by rw [HO.out]; rfl) ?_
            simp only [Act.put, List.setIfInBounds_toArray, List.set_cons_succ, List.set_cons_zero]
            refine plan_skip (hi_of HO rfl) (by rw [HO.out]; rfl) ?_
            simp only [Act.put, List.setIfInBounds_toArray, List.set_cons_succ, List.set_cons_zero]
            refine plan_skip (hi_of HO rfl) (by rw [HO.out]; rfl) ?_
            simp only [Act.put, List.setIfInBounds_toArray, List.set_cons_succ, List.set_cons_zero]
            refine plan_skip (hi_of HO rfl) (by rw [HO.out]; rfl) ?_
            simp only [Act.put, List.setIfInBounds_toArray, List.set_cons_succ, List.set_cons_zero]
            refine plan_skip (hi_of HO rfl) (by rw [HO.out]; rfl) ?_
            simp only [Act.put, List.setIfInBounds_toArray, List.set_cons_succ, List.set_cons_zero]
            refine plan_skip (hi_of HO rfl) (by rw [HO.out]; rfl) ?_
            simp only [Act.put, List.setIfInBounds_toArray, List.set_cons_succ, List.set_cons_zero]
            refine plan_skip (hi_of HO rfl) (by rw [HO.out]; rfl) ?_
            simp only [Act.put, List.setIfInBounds_toArray, List.set_cons_succ, List.set_cons_zero]
            refine plan_skip (hi_of HO rfl) (by rw [HO.out]; rfl) ?_
            simp only [Act.put, List.setIfInBounds_toArray, List.set_cons_succ, List.set_cons_zero]
            refine plan_skip (hi_of HO rfl) (by rw [HO.out]; rfl) ?_
            simp only [Act.put, List.setIfInBounds_toArray, List.set_cons_succ, List.set_cons_zero]
            refine plan_skip (hi_of HO rfl) (by rw [HO.out]; rfl) ?_
            simp only [Act.put, List.setIfInBounds_toArray, List.set_cons_succ, List.set_cons_zero]
            refine plan_skip (hi_of HO rfl) (by rw [HO.out]; rfl) ?_
            simp only [Act.put, List.setIfInBounds_toArray, List.set_cons_succ, List.set_cons_zero]
            refine plan_skip (hi_of HO rfl) (by rw [HO.out]; rfl) ?_
            simp only [Act.put, List.setIfInBounds_toArray, List.set_cons_succ, List.set_cons_zero]
            refine plan_skip (hi_of HO rfl) (by rw [HO.out]; rfl) ?_
            simp only [Act.put, List.setIfInBounds_toArray, List.set_cons_succ, List.set_cons_zero]
            refine plan_skip (hi_of HO rfl) (by rw [HO.out]; rfl) ?_
            simp only [Act.put, List.setIfInBounds_toArray, List.set_cons_succ, List.set_cons_zero]
            refine plan_skip (hi_of HO rfl) (by rw [HO.out]; rfl) ?_
            simp only [Act.put, List.setIfInBounds_toArray, List.set_cons_succ, List.set_cons_zero]
            refine plan_skip (hi_of HO rfl) (by rw [HO.out]; rfl) ?_
            simp only [Act.put, List.setIfInBounds_toArray, List.set_cons_succ, List.set_cons_zero]
            refine plan_skip (hi_of HO rfl) (by rw [HO.out]; rfl) ?_
            simp only [Act.put, List.setIfInBounds_toArray, List.set_cons_succ, List.set_cons_zero]
            refine plan_skip (hi_of HO rfl) (by rw [HO.out]; rfl) ?_
            simp only [Act.put, List.setIfInBounds_toArray, List.set_cons_succ, List.set_cons_zero]
            refine plan_read _ (hi_of HO rfl) rfl (fun w' hE => by have hcE := (Ext.trans _ _ _ (by (repeat (first | exact hx101.out | apply Ext.drew | apply Ext.alloc))) hE).hc; (repeat (with_reducible replace hE := Ext.unD hE)); have hcF := hE.hc; clear hE; go_simp; rfl) ?_
            simp only [Act.put, List.setIfInBounds_toArray, List.set_cons_succ, List.set_cons_zero]
            refine plan_done ?fin104
          all_goals go_wp2
          all_goals first
            | (go_roundw
               case rel => exact ⟨_, by omega, by go_num, HU.out (by simpa using (by assumption : (!rngHolds lo hi op K) = false)) (fun q h => by simp [prevKey] at h), Ext.trans _ _ _ (Ext.refl _) (by assumption : Hid (Ext _ _)).out⟩
               case measure => simp [intOf]; omega)
            | (go_ret
               refine ⟨ret_int ?_, Ext.trans _ _ _ ((Ext.refl _).alloc _) (by assumption : Hid (Ext (w.alloc _) _)).out⟩
               have h116 : itemsChk lo hi op none l = 116 := HT.out (Or.inl (by simpa using (by assumption : (!rngHolds lo hi op K) = true)))
               rw [HP.out, h116]; rfl)
        · have hB := ((HL.out m (by omega)).ext (Ext.trans _ _ _ ((Ext.refl _).alloc _) hx1.out)).c0
          have hlt1 : (m : Int) + 1 < (l.length : Int) := by omega
          have hlt2 : (0 : Int) ≤ (m : Int) + 1 := by omega
          have hlt3 : (m : Int) < (l.length : Int) := by omega
          have hlt4 : IntKind.i64.wrap (m : Int) = m := wrapN m (by omega)
          have HI := hid_mk (show prevKey l (m + 1) = some l[m].key by simp [prevKey, show m < l.length by omega])
          generalize hJ : l[m].key = J at *
          clear hJ
          go_wp2_with fail
          refine wp_region_held_below (fun _ => true) (.quiet 0 (.quiet 1 (.quiet 2 (.quiet 3 (.quiet 4 (.quiet 5 (.quiet 6 (.quiet 7 (.alt 8 (.quiet 9 (.quiet 10 (.quiet 11 (.quiet 12 (.quiet 13 (.quiet 14 (.quiet 15 (.quiet 16 (.quiet 17 (.quiet 18 (.quiet 19 (.quiet 20 (.quiet 21 (.quiet 22 (.quiet 23 (.quiet 24 (.quiet 25 (.quiet 26 (.quiet 27 (.quiet 28 (.quiet 29 .done))))))))))))))))))))) .stop))))))))) (by kernel_rfl) (by kernel_rfl) (by intro c a w d v h; cases d <;> exact h) (fun ops HO => ?_)
          refine plan_read _ (hi_of HO rfl) rfl (fun w' hE => by have hcE := (Ext.trans _ _ _ (by (repeat (first | exact hx1.out | apply Ext.drew | apply Ext.alloc))) hE).hc; (repeat (with_reducible replace hE := Ext.unD hE)); have hcF := hE.hc; clear hE; go_simp; rfl) ?_
          simp only [Act.put, List.setIfInBounds_toArray, List.set_cons_succ, List.set_cons_zero]
          refine plan_read _ (hi_of HO rfl) rfl (fun w' hE => by have hcE := (Ext.trans _ _ _ (by (repeat (first | exact hx1.out | apply Ext.drew | apply Ext.alloc))) hE).hc; (repeat (with_reducible replace hE := Ext.unD hE)); have hcF := hE.hc; clear hE; go_simp; rfl) ?_
          simp only [Act.put, List.setIfInBounds_toArray, List.set_cons_succ, List.set_cons_zero]
          refine plan_read _ (hi_of HO rfl) rfl (fun w' hE => by have hcE := (Ext.trans _ _ _ (by (repeat (first | exact hx1.out | apply Ext.drew | apply Ext.alloc))) hE).hc; (repeat (with_reducible replace hE := Ext.unD hE)); have hcF := hE.hc; clear hE; go_simp; rfl) ?_
          simp only [Act.put, List.setIfInBounds_toArray, List.set_cons_succ, List.set_cons_zero]
          refine plan_read _ (hi_of HO rfl) rfl (fun w' hE => by have hcE := (Ext.trans _ _ _ (by (repeat (first | exact hx1.out | apply Ext.drew | apply Ext.alloc))) hE).hc; (repeat (with_reducible replace hE := Ext.unD hE)); have hcF := hE.hc; clear hE; go_simp; rfl) ?_
          simp only [Act.put, List.setIfInBounds_toArray, List.set_cons_succ, List.set_cons_zero]
          refine plan_read _ (hi_of HO rfl) rfl (fun w' hE => by have hcE := (Ext.trans _ _ _ (by (repeat (first | exact hx1.out | apply Ext.drew | apply Ext.alloc))) hE).hc; (repeat (with_reducible replace hE := Ext.unD hE)); have hcF := hE.hc; clear hE; go_simp; rfl) ?_
          simp only [Act.put, List.setIfInBounds_toArray, List.set_cons_succ, List.set_cons_zero]
          refine plan_read _ (hi_of HO rfl) rfl (fun w' hE => by have hcE := (Ext.trans _ _ _ (by (repeat (first | exact hx1.out | apply Ext.drew | apply Ext.alloc))) hE).hc; (repeat (with_reducible replace hE := Ext.unD hE)); have hcF := hE.hc; clear hE; go_simp; rfl) ?_
          simp only [Act.put, List.setIfInBounds_toArray, List.set_cons_succ, List.set_cons_zero]
          refine plan_read _ (hi_of HO rfl) rfl (fun w' hE => by have hcE := (Ext.trans _ _ _ (by (repeat (first | exact hx1.out | apply Ext.drew | apply Ext.alloc))) hE).hc; (repeat (with_reducible replace hE := Ext.unD hE)); have hcF := hE.hc; clear hE; go_simp; rfl) ?_
          simp only [Act.put, List.setIfInBounds_toArray, List.set_cons_succ, List.set_cons_zero]
          refine plan_read _ (hi_of HO rfl) rfl (fun w' hE => by have hcE := (Ext.trans _ _ _ (by (repeat (first | exact hx1.out | apply Ext.drew | apply Ext.alloc))) hE).hc; (repeat (with_reducible replace hE := Ext.unD hE)); have hcF := hE.hc; clear hE; go_simp; rfl) ?_
          simp only [Act.put, List.setIfInBounds_toArray, List.set_cons_succ, List.set_cons_zero]
          refine plan_call1 en_r2Holds (hi_of HO rfl) rfl rfl (by go_simp; rfl) (by exact (r2Holds_any _ _ _ _ _)) ?_
          rintro e v105 ⟨rfl, hx105⟩
          refine ⟨_, rfl, fun _ => hx105, ?_⟩
          have hy105 := hid_mk (by first | (with_reducible exact Ext.unD hx105) | exact hx105 : Ext _ v105)
          replace hx105 := Ext.trans _ _ _ (by (repeat (first | exact hx1.out | apply Ext.drew | apply Ext.alloc))) hx105
          clear hc1 hl1 he1 hn1
          have hc105 := hx105.hc; have hl105 := hx105.hl; have he105 := hx105.hle; have hn105 := hx105.hne; replace hx105 := hid_mk hx105
          simp only [Act.put, List.setIfInBounds_toArray, List.set_cons_succ, List.set_cons_zero]
          replace a0 := cell_ext hy105.out a0
          replace hB := cell_ext hy105.out hB
          have hbl105 := cell_lt a0
          refine plan_read _ (hi_of HO rfl) rfl (fun w' hE => by have hcE := (Ext.trans _ _ _ (by (repeat (first | exact hx105.out | apply Ext.drew | apply Ext.alloc))) hE).hc; (repeat (with_reducible replace hE := Ext.unD hE)); have hcF := hE.hc; clear hE; go_simp; rfl) ?_
          simp only [Act.put, List.setIfInBounds_toArray, List.set_cons_succ, List.set_cons_zero]
          refine plan_boolc _ (hi_of HO rfl) rfl (fun w' hE => by have hcE := (Ext.trans _ _ _ (by (repeat (first | exact hx105.out | apply Ext.drew | apply Ext.alloc))) hE).hc; (repeat (with_reducible replace hE := Ext.unD hE)); have hcF := hE.hc; clear hE; go_simp; rfl) (by rfl) ?hF106 ?hT106
          case' hF106 =>
            intro hb106
            simp only [Act.put, List.setIfInBounds_toArray, List.set_cons_succ, List.set_cons_zero]
            refine plan_read _ (hi_of HO rfl) (by rw [HO.out]; rfl) (fun w' hE => by have hcE := (Ext.trans _ _ _ (by (repeat (first | exact hx105.out | apply Ext.drew | apply Ext.alloc))) hE).hc; (repeat (with_reducible replace hE := Ext.unD hE)); have hcF := hE.hc; clear hE; go_simp; rfl) ?_
            simp only [Act.put, List.setIfInBounds_toArray, List.set_cons_succ, List.set_cons_zero]
            refine plan_read _ (hi_of HO rfl) (by rw [HO.out]; rfl) (fun w' hE => by have hcE := (Ext.trans _ _ _ (by (repeat (first | exact hx105.out | apply Ext.drew | apply Ext.alloc))) hE).hc; (repeat (with_reducible replace hE := Ext.unD hE)); have hcF := hE.hc; clear hE; go_simp; rfl) ?_
            simp only [Act.put, List.setIfInBounds_toArray, List.set_cons_succ, List.set_cons_zero]
            refine plan_read _ (hi_of HO rfl) (by rw [HO.out]; rfl) (fun w' hE => by have hcE := (Ext.trans _ _ _ (by (repeat (first | exact hx105.out | apply Ext.drew | apply Ext.alloc))) hE).hc; (repeat (with_reducible replace hE := Ext.unD hE)); have hcF := hE.hc; clear hE; go_simp; rfl) ?_
            simp only [Act.put, List.setIfInBounds_toArray, List.set_cons_succ, List.set_cons_zero]
            refine plan_read _ (hi_of HO rfl) (by rw [HO.out]; rfl) (fun w' hE => by have hcE := (Ext.trans _ _ _ (by (repeat (first | exact hx105.out | apply Ext.drew | apply Ext.alloc))) hE).hc; (repeat (with_reducible replace hE := Ext.unD hE)); have hcF := hE.hc; clear hE; go_simp; rfl) ?_
            simp only [Act.put, List.setIfInBounds_toArray, List.set_cons_succ, List.set_cons_zero]
            refine plan_read _ (hi_of HO rfl) (by rw [HO.out]; rfl) (fun w' hE => by have hcE := (Ext.trans _ _ _ (by (repeat (first | exact hx105.out | apply Ext.drew | apply Ext.alloc))) hE).hc; (repeat (with_reducible replace hE := Ext.unD hE)); have hcF := hE.hc; clear hE; go_simp; rfl) ?_
            simp only [Act.put, List.setIfInBounds_toArray, List.set_cons_succ, List.set_cons_zero]
            refine plan_read _ (hi_of HO rfl) (by rw [HO.out]; rfl) (fun w' hE => by have hcE := (Ext.trans _ _ _ (by (repeat (first | exact hx105.out | apply Ext.drew | apply Ext.alloc))) hE).hc; (repeat (with_reducible replace hE := Ext.unD hE)); have hcF := hE.hc; clear hE; go_simp; rfl) ?_
            simp only [Act.put, List.setIfInBounds_toArray, List.set_cons_succ, List.set_cons_zero]
            refine plan_read _ (hi_of HO rfl) (by rw [HO.out]; rfl) (fun w' hE => by have hcE := (Ext.trans _ _ _ (by (repeat (first | exact hx105.out | apply Ext.drew | apply Ext.alloc))) hE).hc; (repeat (with_reducible replace hE := Ext.unD hE)); have hcF := hE.hc; clear hE; go_simp; rfl) ?_
            simp only [Act.put, List.setIfInBounds_toArray, List.set_cons_succ, List.set_cons_zero]
            refine plan_read _ (hi_of HO rfl) (by rw [HO.out]; rfl) (fun w' hE => by have hcE := (Ext.trans _ _ _ (by (repeat (first | exact hx105.out | apply Ext.drew | apply Ext.alloc))) hE).hc; (repeat (with_reducible replace hE := Ext.unD hE)); have hcF := hE.hc; clear hE; go_simp; rfl) ?_
            simp only [Act.put, List.setIfInBounds_toArray, List.set_cons_succ, List.set_cons_zero]
            refine plan_read _ (hi_of HO rfl) (by rw [HO.out]; rfl) (fun w' hE => by have hcE := (Ext.trans _ _ _ (by (repeat (first | exact hx105.out | apply Ext.drew | apply Ext.alloc))) hE).hc; (repeat (with_reducible replace hE := Ext.unD hE)); have hcF := hE.hc; clear hE; go_simp; rfl) ?_
            simp only [Act.put, List.setIfInBounds_toArray, List.set_cons_succ, List.set_cons_zero]
            refine plan_read _ (hi_of HO rfl) (by rw [HO.out]; rfl) (fun w' hE => by have hcE := (Ext.trans _ _ _ (by (repeat (first | exact hx105.out | apply Ext.drew | apply Ext.alloc))) hE).hc; (repeat (with_reducible replace hE := Ext.unD hE)); have hcF := hE.hc; clear hE; go_simp; rfl) ?_
            simp only [Act.put, List.setIfInBounds_toArray, List.set_cons_succ, List.set_cons_zero]
            refine plan_read _ (hi_of HO rfl) (by rw [HO.out]; rfl) (fun w' hE => by have hcE := (Ext.trans _ _ _ (by (repeat (first | exact hx105.out | apply Ext.drew | apply Ext.alloc))) hE).hc; (repeat (with_reducible replace hE := Ext.unD hE)); have hcF := hE.hc; clear hE; go_simp; rfl) ?_
            simp only [Act.put, List.setIfInBounds_toArray, List.set_cons_succ, List.set_cons_zero]
            refine plan_read _ (hi_of HO rfl) (by rw [HO.out]; rfl) (fun w' hE => by have hcE := (Ext.trans _ _ _ (by (repeat (first | exact hx105.out | apply Ext.drew | apply Ext.alloc))) hE).hc; (repeat (with_reducible replace hE := Ext.unD hE)); have hcF := hE.hc; clear hE; go_simp; rfl) ?_
            simp only [Act.put, List.setIfInBounds_toArray, List.set_cons_succ, List.set_cons_zero]
            refine plan_read _ (hi_of HO rfl) (by rw [HO.out]; rfl) (fun w' hE => by have hcE := (Ext.trans _ _ _ (by (repeat (first | exact hx105.out | apply Ext.drew | apply Ext.alloc))) hE).hc; (repeat (with_reducible replace hE := Ext.unD hE)); have hcF := hE.hc; clear hE; go_simp; rfl) ?_
            simp only [Act.put, List.setIfInBounds_toArray, List.set_cons_succ, List.set_cons_zero]
            refine plan_read _ (hi_of HO rfl) (by rw [HO.out]; rfl) (fun w' hE => by have hcE := (Ext.trans _ _ _ (by (repeat (first | exact hx105.out | apply Ext.drew | apply Ext.alloc))) hE).hc; (repeat (with_reducible replace hE := Ext.unD hE)); have hcF := hE.hc; clear hE; go_simp; rfl) ?_
            simp only [Act.put, List.setIfInBounds_toArray, List.set_cons_succ, List.set_cons_zero]
            refine plan_read _ (hi_of HO rfl) (by rw [HO.out]; rfl) (fun w' hE => by have hcE := (Ext.trans _ _ _ (by (repeat (first | exact hx105.out | apply Ext.drew | apply Ext.alloc))) hE).hc; (repeat (with_reducible replace hE := Ext.unD hE)); have hcF := hE.hc; clear hE; go_simp; rfl) ?_
            simp only [Act.put, List.setIfInBounds_toArray, List.set_cons_succ, List.set_cons_zero]
            refine plan_read _ (hi_of HO rfl) (by rw [HO.out]; rfl) (fun w' hE => by have hcE := (Ext.trans _ _ _ (by (repeat (first | exact hx105.out | apply Ext.drew | apply Ext.alloc))) hE).hc; (repeat (with_reducible replace hE := Ext.unD hE)); have hcF := hE.hc; clear hE; go_simp; rfl) ?_
            simp only [Act.put, List.setIfInBounds_toArray, List.set_cons_succ, List.set_cons_zero]
            refine plan_read _ (hi_of HO rfl) (by rw [HO.out]; rfl) (fun w' hE => by have hcE := (Ext.trans _ _ _ (by (repeat (first | exact hx105.out | apply Ext.drew | apply Ext.alloc))) hE).hc; (repeat (with_reducible replace hE := Ext.unD hE)); have hcF := hE.hc; clear hE; go_simp; rfl) ?_
            simp only [Act.put, List.setIfInBounds_toArray, List.set_cons_succ, List.set_cons_zero]
            refine plan_read _ (hi_of HO rfl) (by rw [HO.out]; rfl) (fun w' hE => by have hcE := (Ext.trans _ _ _ (by (repeat (first | exact hx105.out | apply Ext.drew | apply Ext.alloc))) hE).hc; (repeat (with_reducible replace hE := Ext.unD hE)); have hcF := hE.hc; clear hE; go_simp; rfl) ?_
            simp only [Act.put, List.setIfInBounds_toArray, List.set_cons_succ, List.set_cons_zero]
            refine plan_read _ (hi_of HO rfl) rfl (fun w' hE => by have hcE := (Ext.trans _ _ _ (by (repeat (first | exact hx105.out | apply Ext.drew | apply Ext.alloc))) hE).hc; (repeat (with_reducible replace hE := Ext.unD hE)); have hcF := hE.hc; clear hE; go_simp; rfl) ?_
            simp only [Act.put, List.setIfInBounds_toArray, List.set_cons_succ, List.set_cons_zero]
            refine plan_done ?fin107
          case' hT106 =>
            intro hb106
            simp only [Act.put, List.setIfInBounds_toArray, List.set_cons_succ, List.set_cons_zero]
            refine plan_skip (hi_of HO rfl) (by rw [HO.out]; rfl) ?_
            simp only [Act.put, List.setIfInBounds_toArray, List.set_cons_succ, List.set_cons_zero]
            refine plan_skip (hi_of HO rfl) (by rw [HO.out]; rfl) ?_
            simp only [Act.put, List.setIfInBounds_toArray, List.set_cons_succ, List.set_cons_zero]
            refine plan_skip (hi_of HO rfl) (by rw [HO.out]; rfl) ?_
            simp only [Act.put, List.setIfInBounds_toArray, List.set_cons_succ, List.set_cons_zero]
            refine plan_skip (hi_of HO rfl) (by rw [HO.out]; rfl) ?_
            simp only [Act.put, List.setIfInBounds_toArray, List.set_cons_succ, List.set_cons_zero]
            refine plan_skip (hi_of HO rfl) (by rw [HO.out]; rfl) ?_
            simp only [Act.put, List.setIfInBounds_toArray, List.set_cons_succ, List.set_cons_zero]
            refine plan_skip (hi_of HO rfl) (by rw [HO.out]; rfl) ?_
            simp only [Act.put, List.setIfInBounds_toArray, List.set_cons_succ, List.set_cons_zero]
            refine plan_skip (hi_of HO rfl) (by rw [HO.out]; rfl) ?_
            simp only [Act.put, List.setIfInBounds_toArray, List.set_cons_succ, List.set_cons_zero]
            refine plan_skip (hi_of HO rfl) (by rw [HO.out]; rfl) ?_
            simp only [Act.put, List.setIfInBounds_toArray, List.set_cons_succ, List.set_cons_zero]
            refine plan_skip (hi_of HO rfl) (by rw [HO.out]; rfl) ?_
            simp only [Act.put, List.setIfInBounds_toArray, List.set_cons_succ, List.set_cons_zero]
            refine plan_skip (hi_of HO rfl) (by rw [HO.out]; rfl) ?_
            simp only [Act.put, List.setIfInBounds_toArray, List.set_cons_succ, List.set_cons_zero]
            refine plan_skip (hi_of HO rfl) (by rw [HO.out]; rfl) ?_
            simp only [Act.put, List.setIfInBounds_toArray, List.set_cons_succ, List.set_cons_zero]
            refine plan_skip (hi_of HO rfl) (by rw [HO.out]; rfl) ?_
            simp only [Act.put, List.setIfInBounds_toArray, List.set_cons_succ, List.set_cons_zero]
            refine plan_skip (hi_of HO rfl) (by rw [HO.out]; rfl) ?_
            simp only [Act.put, List.setIfInBounds_toArray, List.set_cons_succ, List.set_cons_zero]
            refine plan_skip (hi_of HO rfl) (by rw [HO.out]; rfl) ?_
            simp only [Act.put, List.setIfInBounds_toArray, List.set_cons_succ, List.set_cons_zero]
            refine plan_skip (hi_of HO rfl) (by rw [HO.out]; rfl) ?_
            simp only [Act.put, List.setIfInBounds_toArray, List.set_cons_succ, List.set_cons_zero]
            refine plan_skip (hi_of HO rfl) (by rw [HO.out]; rfl) ?_
            simp only [Act.put, List.setIfInBounds_toArray, List.set_cons_succ, List.set_cons_zero]
            refine plan_skip (hi_of HO rfl) (by rw [HO.out]; rfl) ?_
            simp only [Act.put, List.setIfInBounds_toArray, List.set_cons_succ, List.set_cons_zero]
            refine plan_skip (hi_of HO rfl) (by rw [HO.out]; rfl) ?_
            simp only [Act.put, List.setIfInBounds_toArray, List.set_cons_succ, List.set_cons_zero]
            refine plan_read _ (hi_of HO rfl) rfl (fun w' hE => by have hcE := (Ext.trans _ _ _ (by (repeat (first | exact hx105.out | apply Ext.drew | apply Ext.alloc))) hE).hc; (repeat (with_reducible replace hE := Ext.unD hE)); have hcF := hE.hc; clear hE; go_simp; rfl) ?_
            simp only [Act.put, List.setIfInBounds_toArray, List.set_cons_succ, List.set_cons_zero]
            refine plan_done ?fin108
          all_goals go_wp2
          all_goals first
            | (go_roundw
               case rel => exact ⟨_, by omega, by go_num, HU.out (by simpa using (by assumption : (!rngHolds lo hi op K) = false)) (fun q h => by rw [HI.out] at h; cases h; exact (bl_triN _ _).1 ⟨(by assumption : Op.bytesLess K.toList J.toList = false ∧ (K.toList == J.toList) = false).1, by simpa using (by assumption : Op.bytesLess K.toList J.toList = false ∧ (K.toList == J.toList) = false).2⟩), Ext.trans _ _ _ (Ext.refl _) (by assumption : Hid (Ext _ _)).out⟩
               case measure => simp [intOf]; omega)
            | (go_ret
               refine ⟨ret_int ?_, Ext.trans _ _ _ ((Ext.refl _).alloc _) (by assumption : Hid (Ext (w.alloc _) _)).out⟩
               have h116 : itemsChk lo hi op none l = 116 := HT.out (by first | exact Or.inl (by simpa using (by assumption : (!rngHolds lo hi op K) = true)) | exact Or.inr ⟨_, HI.out, (bl_triP _ _).1 (by simpa using (by assumption : Op.bytesLess K.toList J.toList = true ∨ (K.toList == J.toList) = true))⟩)
               rw [HP.out, h116]; rfl)
      · go_wp2
        go_ret
        refine ⟨?_, Ext.trans _ _ _ ((Ext.refl _).alloc _) hx1.out⟩
        refine ret_int ?_
        rw [HP.out, HF.out, HS.out, if_pos hz, if_pos hz]
    · have e : k = l.length := by omega
      subst e
      have HN := hid_mk (show itemsChk lo hi op none l = 0 by rw [HF.out, List.drop_length]; cases prevKey l l.length <;> rfl)
      have hx0 := HX.out
      have hc0 := hx0.hc; have hl0 := hx0.hl; have he0 := hx0.hle; have hn0 := hx0.hne; replace hx0 := hid_mk hx0
      go_wp2
      all_goals go_ret
      all_goals (refine ⟨ret_int ?_, Ext.trans _ _ _ ((Ext.refl _).alloc _) hx0.out⟩)
      all_goals (rw [HP.out, HN.out, if_neg (by simp)])
      · rw [if_pos ⟨by assumption, by have h : ((l.length : Int) == 0) = true := by assumption
                                      simp at h; simp [h]⟩]
      · rw [if_neg (fun h => by have h' : ((l.length : Int) == 0) = false := by assumption
                                simp [h.2] at h')]
      · rw [if_neg (fun h => (by assumption : ¬ kind = 3) h.1)]

theorem checkEntries_any (kind : Int) (lo hi : ByteArray) (op : Bool) (n s0 s1 : Int) (sv : Value) (l : List Ent) (w : World) (hs : EntSl w sv l) :
    Calls Tryd.prog 118 #[.agg #[.int .i64 kind, .string lo, .string hi, .bool op, .int .i64 n, .int .u64 s0, .int .u64 s1, sv]] w fun e w' => e = .returned (.int .i64 (partItems kind lo hi op l)) ∧ Ext w w' := by
  obtain ⟨a, c, rfl, hlc, hc63, hcells⟩ := hs
  have HP : Hid (partItems kind lo hi op l = if itemsChk lo hi op none l ≠ 0 then itemsChk lo hi op none l else if kind = 3 ∧ l.length = 0 then 116 else 0) := rfl
  generalize partItems kind lo hi op l = res at *
  have HC := hid_mk hcells
  clear hcells
  go_enter Tryd.func118, Tryd.ntmps118
  go_wp2
  go_loopw [9] (fun i wr => ∃ k : Nat, k ≤ l.length ∧ i = .int .i64 k ∧ itemsChk lo hi op none l = itemsChk lo hi op (prevKey l k) (l.drop k) ∧ Ext (w.alloc (.cells #[.int .i64 kind, .string lo, .string hi, .bool op, .int .i64 n, .int .u64 s0, .int .u64 s1, .slice a l.length c] 34)) wr) (fun i _ => l.length - (intOf i).toNat)
  case atStart => exact ⟨0, Nat.zero_le _, rfl, by simp [prevKey], Ext.refl _⟩
  case round =>
    obtain ⟨k, hk, rfl, hf, hx⟩ := hrel
    have HF := hid_mk hf
    clear hf
    have HX := hid_mk hx
    clear hx
    by_cases hlt : k < l.length
    · obtain ⟨b, o, rfl, hcl⟩ := HC.out (by omega)
      have HL := hid_mk hcl
      have hx0 := HX.out
      have hc0 := hx0.hc; have hl0 := hx0.hl; have he0 := hx0.hle; have hn0 := hx0.hne; replace hx0 := hid_mk hx0
      have hA := (hcl k hlt).ext (Ext.trans _ _ _ ((Ext.refl _).alloc _) HX.out)
      obtain ⟨a0, a1, a2, a3, a4⟩ := hA
      have HS := hid_mk (itemsChk_drop lo hi op l k hlt (prevKey l k))
      clear hcl
      go_wp2_with fail
      refine (iCheck_any _ _ _ _ _ _).mono ?_
      rintro e w1 ⟨rfl, hx1⟩
      have ax : w1.cell? ⟨wr.heap.size, 0, none⟩ = some (.string l[k].key) := cell_ext hx1 (by go_simp)
      clear a0 a1 a2 a3 a4 hc0 hl0 he0 hn0
      replace hx1 := Ext.trans _ _ _ (HX.out.alloc _) hx1
      have hc1 := hx1.hc; have hl1 := hx1.hl; have he1 := hx1.hle; have hn1 := hx1.hne; replace hx1 := hid_mk hx1
      by_cases hz : entCheck l[k].key l[k].ctr l[k].node l[k].val l[k].dead = 0
      · have HZ := hid_mk hz
        rw [hz]
        clear hz
        have hbx := cell_lt ax
        have HT := hid_mk (show (rngHolds lo hi op l[k].key = false ∨ ∃ q, prevKey l k = some q ∧ Op.bytesLess q.toList l[k].key.toList = false) → itemsChk lo hi op none l = 116 from
          fun h => by rw [HF.out, HS.out, if_neg (by simp [HZ.out]), if_pos h])
        have HU := hid_mk (show rngHolds lo hi op l[k].key = true → (∀ q, prevKey l k = some q → Op.bytesLess q.toList l[k].key.toList = true) → itemsChk lo hi op none l = itemsChk lo hi op (prevKey l (k + 1)) (l.drop (k + 1)) from
          fun h h' => by
            rw [HF.out, HS.out, if_neg (by simp [HZ.out]), if_neg (by
              rintro (h1 | ⟨q, h1, h2⟩)
              · rw [h] at h1; cases h1
              · rw [h' q h1] at h2; cases h2)]
            simp [prevKey, hlt])
        generalize hK : l[k].key = K at *
        have HK := hid_mk hK
        clear hK
        rcases k with _ | m
        · go_wp2_with fail
          refine wp_region_held_below (fun _ => true) (.quiet 0 (.quiet 1 (.quiet 2 (.quiet 3 (.alt 4 (.quiet 5 (.quiet 6 (.quiet 7 (.quiet 8 (.quiet 9 (.quiet 10 (.quiet 11 (.quiet 12 (.quiet 13 (.quiet 14 (.quiet 15 (.quiet 16 (.quiet 17 (.quiet 18 (.quiet 19 (.quiet 20 (.quiet 21 .done))))))))))))))))) .stop))))) (by kernel_rfl) (by kernel_rfl) (by intro c a w d v h; cases d <;> exact h) (fun ops HO => ?_)
          refine plan_read _ (hi_of HO rfl) rfl (fun w' hE => by have hcE := (Ext.trans _ _ _ (by (repeat (first | exact hx1.out | apply Ext.drew | apply Ext.alloc))) hE).hc; (repeat (with_reducible replace hE := Ext.unD hE)); have hcF := hE.hc; clear hE; go_simp; rfl) ?_
          simp only [Act.put, List.setIfInBounds_toArray, List.set_cons_succ, List.set_cons_zero]
          refine plan_read _ (hi_of HO rfl) rfl (fun w' hE => by have hcE := (Ext.trans _ _ _ (by (repeat (first | exact hx1.out | apply Ext.drew | apply Ext.alloc))) hE).hc; (repeat (with_reducible replace hE := Ext.unD hE)); have hcF := hE.hc; clear hE; go_simp; rfl) ?_
          simp only [Act.put, List.setIfInBounds_toArray, List.set_cons_succ, List.set_cons_zero]
          refine plan_read _ (hi_of HO rfl) rfl (fun w' hE => by have hcE := (Ext.trans _ _ _ (by (repeat (first | exact hx1.out | apply Ext.drew | apply Ext.alloc))) hE).hc; (repeat (with_reducible replace hE := Ext.unD hE)); have hcF := hE.hc; clear hE; go_simp; rfl) ?_
          simp only [Act.put, List.setIfInBounds_toArray, List.set_cons_succ, List.set_cons_zero]
          refine plan_read _ (hi_of HO rfl) rfl (fun w' hE => by have hcE := (Ext.trans _ _ _ (by (repeat (first | exact hx1.out | apply Ext.drew | apply Ext.alloc))) hE).hc; (repeat (with_reducible replace hE := Ext.unD hE)); have hcF := hE.hc; clear hE; go_simp; rfl) ?_
          simp only [Act.put, List.setIfInBounds_toArray, List.set_cons_succ, List.set_cons_zero]
          refine plan_call1 en_sHolds (hi_of HO rfl) rfl rfl (by go_simp; rfl) (by exact (sHolds_any _ _ _ _ _)) ?_
          rintro e v109 ⟨rfl, hx109⟩
          refine ⟨_, rfl, fun _ => hx109, ?_⟩
          have hy109 := hid_mk (by first | (with_reducible exact Ext.unD hx109) | exact hx109 : Ext _ v109)
          replace hx109 := Ext.trans _ _ _ (by (repeat (first | exact hx1.out | apply Ext.drew | apply Ext.alloc))) hx109
          clear hc1 hl1 he1 hn1
          have hc109 := hx109.hc; have hl109 := hx109.hl; have he109 := hx109.hle; have hn109 := hx109.hne; replace hx109 := hid_mk hx109
          simp only [Act.put, List.setIfInBounds_toArray, List.set_cons_succ, List.set_cons_zero]
          replace ax := cell_ext hy109.out ax
          have hbl109 := cell_lt ax
          refine plan_read _ (hi_of HO rfl) rfl (fun w' hE => by have hcE := (Ext.trans _ _ _ (by (repeat (first | exact hx109.out | apply Ext.drew | apply Ext.alloc))) hE).hc; (repeat (with_reducible replace hE := Ext.unD hE)); have hcF := hE.hc; clear hE; go_simp; rfl) ?_
          simp only [Act.put, List.setIfInBounds_toArray, List.set_cons_succ, List.set_cons_zero]
          refine plan_boolc _ (hi_of HO rfl) rfl (fun w' hE => by have hcE := (Ext.trans _ _ _ (by (repeat (first | exact hx109.out | apply Ext.drew | apply Ext.alloc))) hE).hc; (repeat (with_reducible replace hE := Ext.unD hE)); have hcF := hE.hc; clear hE; go_simp; rfl) (by rfl) ?hF110 ?hT110
          case' hF110 =>
            intro hb110
            simp only [Act.put, List.setIfInBounds_toArray, List.set_cons_succ, List.set_cons_zero]
            refine plan_read _ (hi_of HO rfl) (by rw [HO.out]; rfl) (fun w' hE => by have hcE := (Ext.trans _ _ _ (by (repeat (first | exact hx109.out | apply Ext.drew | apply Ext.alloc))) hE).hc; (repeat (with_reducible replace hE := Ext.unD hE)); have hcF := hE.hc; clear hE; go_simp; rfl) ?_
            simp only [Act.put, List.setIfInBounds_toArray, List.set_cons_succ, List.set_cons_zero]
            refine plan_read _ (hi_of HO rfl) (by rw [HO.out]; rfl) (fun w' hE => by have hcE := (Ext.trans _ _ _ (by (repeat (first | exact hx109.out | apply Ext.drew | apply Ext.alloc))) hE).hc; (repeat (with_reducible replace hE := Ext.unD hE)); have hcF := hE.hc; clear hE; go_simp; rfl) ?_
            simp only [Act.put, List.setIfInBounds_toArray, List.set_cons_succ, List.set_cons_zero]
            refine plan_read _ (hi_of HO rfl) (by rw [HO.out]; rfl) (fun w' hE => by have hcE := (Ext.trans _ _ _ (by (repeat (first | exact hx109.out | apply Ext.drew | apply Ext.alloc))) hE).hc; (repeat (with_reducible replace hE := Ext.unD hE)); have hcF := hE.hc; clear hE; go_simp; rfl) ?_
            simp only [Act.put, List.setIfInBounds_toArray, List.set_cons_succ, List.set_cons_zero]
            refine plan_skip (hi_of HO rfl) (by rw [HO.out]; rfl) ?_
            simp only [Act.put, List.setIfInBounds_toArray, List.set_cons_succ, List.set_cons_zero]
            refine plan_skip (hi_of HO rfl) (by rw [HO.out]; rfl) ?_
            simp only [Act.put, List.setIfInBounds_toArray, List.set_cons_succ, List.set_cons_zero]
            refine plan_skip (hi_of HO rfl) (by rw [HO.out]; rfl) ?_
            simp only [Act.put, List.setIfInBounds_toArray, List.set_cons_succ, List.set_cons_zero]
            refine plan_skip (hi_of HO rfl) (by rw [HO.out]; rfl) ?_
            simp only [Act.put, List.setIfInBounds_toArray, List.set_cons_succ, List.set_cons_zero]
            refine plan_skip (hi_of HO rfl) (by rw [HO.out]; rfl) ?_
            simp only [Act.put, List.setIfInBounds_toArray, List.set_cons_succ, List.set_cons_zero]
            refine plan_skip (hi_of HO rfl) (by rw [HO.out]; rfl) ?_
            simp only [Act.put, List.setIfInBounds_toArray, List.set_cons_succ, List.set_cons_zero]
            refine plan_skip (hi_of HO rfl) (by rw [HO.out]; rfl) ?_
            simp only [Act.put, List.setIfInBounds_toArray, List.set_cons_succ, List.set_cons_zero]
            refine plan_skip (hi_of HO rfl) (by rw [HO.out]; rfl) ?_
            simp only [Act.put, List.setIfInBounds_toArray, List.set_cons_succ, List.set_cons_zero]
            refine plan_skip (hi_of HO rfl) (by rw [HO.out]; rfl) ?_
            simp only [Act.put, List.setIfInBounds_toArray, List.set_cons_succ, List.set_cons_zero]
            refine plan_skip (hi_of HO rfl) (by rw [HO.out]; rfl) ?_
            simp only [Act.put, List.setIfInBounds_toArray, List.set_cons_succ, List.set_cons_zero]
            refine plan_read _ (hi_of HO rfl) (by rw [HO.out]; rfl) (fun w' hE => by have hcE := (Ext.trans _ _ _ (by (repeat (first | exact hx109.out | apply Ext.drew | apply Ext.alloc))) hE).hc; (repeat (with_reducible replace hE := Ext.unD hE)); have hcF := hE.hc; clear hE; go_simp; rfl) ?_
            simp only [Act.put, List.setIfInBounds_toArray, List.set_cons_succ, List.set_cons_zero]
            refine plan_read _ (hi_of HO rfl) rfl (fun w' hE => by have hcE := (Ext.trans _ _ _ (by (repeat (first | exact hx109.out | apply Ext.drew | apply Ext.alloc))) hE).hc; (repeat (with_reducible replace hE := Ext.unD hE)); have hcF := hE.hc; clear hE; go_simp; rfl) ?_
            simp only [Act.put, List.setIfInBounds_toArray, List.set_cons_succ, List.set_cons_zero]
            refine plan_done ?fin111
          case' hT110 =>
            intro hb110
            simp only [Act.put, List.setIfInBounds_toArray, List.set_cons_succ, List.set_cons_zero]
            refine plan_skip (hi_of HO rfl) (by rw [HO.out]; rfl) ?_
            simp only [Act.put, List.setIfInBounds_toArray, List.set_cons_succ, List.set_cons_zero]
            refine plan_skip (hi_of HO rfl) (by rw [HO.out]; rfl) ?_
            simp only [Act.put, List.setIfInBounds_toArray, List.set_cons_succ, List.set_cons_zero]
            refine plan_skip (hi_of HO rfl) (by rw [HO.out]; rfl) ?_
            simp only [Act.put, List.setIfInBounds_toArray, List.set_cons_succ, List.set_cons_zero]
            refine plan_skip (hi_of HO rfl) (by rw [HO.out]; rfl) ?_
            simp only [Act.put, List.setIfInBounds_toArray, List.set_cons_succ, List.set_cons_zero]
            refine plan_skip (hi_of HO rfl) (by rw [HO.out]; rfl) ?_
            simp only [Act.put, List.setIfInBounds_toArray, List.set_cons_succ, List.set_cons_zero]
            refine plan_skip (hi_of HO rfl) (by rw [HO.out]; rfl) ?_
            simp only [Act.put, List.setIfInBounds_toArray, List.set_cons_succ, List.set_cons_zero]
            refine plan_skip (hi_of HO rfl) (by rw [HO.out]; rfl) ?_
            simp only [Act.put, List.setIfInBounds_toArray, List.set_cons_succ, List.set_cons_zero]
            refine plan_skip (hi_of HO rfl) (by rw [HO.out]; rfl) ?_
            simp only [Act.put, List.setIfInBounds_toArray, List.set_cons_succ, List.set_cons_zero]
            refine plan_skip (hi_of HO rfl) (by rw [HO.out]; rfl) ?_
            simp only [Act.put, List.setIfInBounds_toArray, List.set_cons_succ, List.set_cons_zero]
            refine plan_skip (hi_of HO rfl) (by rw [HO.out]; rfl) ?_
            simp only [Act.put, List.setIfInBounds_toArray, List.set_cons_succ, List.set_cons_zero]
            refine plan_skip (hi_of HO rfl) (by rw [HO.out]; rfl) ?_
            simp only [Act.put, List.setIfInBounds_toArray, List.set_cons_succ, List.set_cons_zero]
            refine plan_skip (hi_of HO rfl) (by rw [HO.out]; rfl) ?_
            simp only [Act.put, List.setIfInBounds_toArray, List.set_cons_succ, List.set_cons_zero]
            refine plan_skip (hi_of HO rfl) (by rw [HO.out]; rfl) ?_
            simp only [Act.put, List.setIfInBounds_toArray, List.set_cons_succ, List.set_cons_zero]
            refine plan_skip (hi_of HO rfl) (by rw [HO.out]; rfl) ?_
            simp only [Act.put, List.setIfInBounds_toArray, List.set_cons_succ, List.set_cons_zero]
            refine plan_read _ (hi_of HO rfl) rfl (fun w' hE => by have hcE := (Ext.trans _ _ _ (by (repeat (first | exact hx109.out | apply Ext.drew | apply Ext.alloc))) hE).hc; (repeat (with_reducible replace hE := Ext.unD hE)); have hcF := hE.hc; clear hE; go_simp; rfl) ?_
            simp only [Act.put, List.setIfInBounds_toArray, List.set_cons_succ, List.set_cons_zero]
            refine plan_done ?fin112
          all_goals go_wp2
          all_goals first
            | (go_roundw
               case rel => exact ⟨_, by omega, by go_num, HU.out (by simpa using (by assumption : (!rngHolds lo hi op K) = false)) (fun q h => by simp [prevKey] at h), Ext.trans _ _ _ (Ext.refl _) (by assumption : Hid (Ext _ _)).out⟩
               case measure => simp [intOf]; omega)
            | (go_ret
               refine ⟨ret_int ?_, Ext.trans _ _ _ ((Ext.refl _).alloc _) (by assumption : Hid (Ext (w.alloc _) _)).out⟩
               have h116 : itemsChk lo hi op none l = 116 := HT.out (Or.inl (by simpa using (by assumption : (!rngHolds lo hi op K) = true)))
               rw [HP.out, h116]; rfl)
        · have hB := ((HL.out m (by omega)).ext (Ext.trans _ _ _ ((Ext.refl _).alloc _) hx1.out)).c0
          have hbB := cell_lt hB
          have hlt1 : (m : Int) + 1 < (l.length : Int) := by omega
          have hlt2 : (0 : Int) ≤ (m : Int) + 1 := by omega
          have hlt3 : (m : Int) < (l.length : Int) := by omega
          have hlt4 : IntKind.i64.wrap (m : Int) = m := wrapN m (by omega)
          have HI := hid_mk (show prevKey l (m + 1) = some l[m].key by simp [prevKey, show m < l.length by omega])
          generalize hJ : l[m].key = J at *
          clear hJ
          go_wp2_with fail
          refine wp_region_held_below (fun _ => true) (.quiet 0 (.quiet 1 (.quiet 2 (.quiet 3 (.alt 4 (.quiet 5 (.quiet 6 (.quiet 7 (.quiet 8 (.quiet 9 (.quiet 10 (.quiet 11 (.quiet 12 (.quiet 13 (.quiet 14 (.quiet 15 (.quiet 16 (.quiet 17 (.quiet 18 (.quiet 19 (.quiet 20 (.quiet 21 .done))))))))))))))))) .stop))))) (by kernel_rfl) (by kernel_rfl) (by intro c a w d v h; cases d <;> exact h) (fun ops HO => ?_)
          refine plan_read _ (hi_of HO rfl) rfl (fun w' hE => by have hcE := (Ext.trans _ _ _ (by (repeat (first | exact hx1.out | apply Ext.drew | apply Ext.alloc))) hE).hc; (repeat (with_reducible replace hE := Ext.unD hE)); have hcF := hE.hc; clear hE; go_simp; rfl) ?_
          simp only [Act.put, List.setIfInBounds_toArray, List.set_cons_succ, List.set_cons_zero]
          refine plan_read _ (hi_of HO rfl) rfl (fun w' hE => by have hcE := (Ext.trans _ _ _ (by (repeat (first | exact hx1.out | apply Ext.drew | apply Ext.alloc))) hE).hc; (repeat (with_reducible replace hE := Ext.unD hE)); have hcF := hE.hc; clear hE; go_simp; rfl) ?_
          simp only [Act.put, List.setIfInBounds_toArray, List.set_cons_succ, List.set_cons_zero]
          refine plan_read _ (hi_of HO rfl) rfl (fun w' hE => by have hcE := (Ext.trans _ _ _ (by (repeat (first | exact hx1.out | apply Ext.drew | apply Ext.alloc))) hE).hc; (repeat (with_reducible replace hE := Ext.unD hE)); have hcF := hE.hc; clear hE; go_simp; rfl) ?_
          simp only [Act.put, List.setIfInBounds_toArray, List.set_cons_succ, List.set_cons_zero]
          refine plan_read _ (hi_of HO rfl) rfl (fun w' hE => by have hcE := (Ext.trans _ _ _ (by (repeat (first | exact hx1.out | apply Ext.drew | apply Ext.alloc))) hE).hc; (repeat (with_reducible replace hE := Ext.unD hE)); have hcF := hE.hc; clear hE; go_simp; rfl) ?_
          simp only [Act.put, List.setIfInBounds_toArray, List.set_cons_succ, List.set_cons_zero]
          refine plan_call1 en_sHolds (hi_of HO rfl) rfl rfl (by go_simp; rfl) (by exact (sHolds_any _ _ _ _ _)) ?_
          rintro e v113 ⟨rfl, hx113⟩
          refine ⟨_, rfl, fun _ => hx113, ?_⟩
          have hy113 := hid_mk (by first | (with_reducible exact Ext.unD hx113) | exact hx113 : Ext _ v113)
          replace hx113 := Ext.trans _ _ _ (by (repeat (first | exact hx1.out | apply Ext.drew | apply Ext.alloc))) hx113
          clear hc1 hl1 he1 hn1
          have hc113 := hx113.hc; have hl113 := hx113.hl; have he113 := hx113.hle; have hn113 := hx113.hne; replace hx113 := hid_mk hx113
          simp only [Act.put, List.setIfInBounds_toArray, List.set_cons_succ, List.set_cons_zero]
          replace ax := cell_ext hy113.out ax
          replace hB := cell_ext hy113.out hB
          have hbl113 := cell_lt ax
          have hbm113 := cell_lt hB
          refine plan_read _ (hi_of HO rfl) rfl (fun w' hE => by have hcE := (Ext.trans _ _ _ (by (repeat (first | exact hx113.out | apply Ext.drew | apply Ext.alloc))) hE).hc; (repeat (with_reducible replace hE := Ext.unD hE)); have hcF := hE.hc; clear hE; go_simp; rfl) ?_
          simp only [Act.put, List.setIfInBounds_toArray, List.set_cons_succ, List.set_cons_zero]
          refine plan_boolc _ (hi_of HO rfl) rfl (fun w' hE => by have hcE := (Ext.trans _ _ _ (by (repeat (first | exact hx113.out | apply Ext.drew | apply Ext.alloc))) hE).hc; (repeat (with_reducible replace hE := Ext.unD hE)); have hcF := hE.hc; clear hE; go_simp; rfl) (by rfl) ?hF114 ?hT114
          case' hF114 =>
            intro hb114
            simp only [Act.put, List.setIfInBounds_toArray, List.set_cons_succ, List.set_cons_zero]
            refine plan_read _ (hi_of HO rfl) (by rw [HO.out]; rfl) (fun w' hE => by have hcE := (Ext.trans _ _ _ (by (repeat (first | exact hx113.out | apply Ext.drew | apply Ext.alloc))) hE).hc; (repeat (with_reducible replace hE := Ext.unD hE)); have hcF := hE.hc; clear hE; go_simp; rfl) ?_
            simp only [Act.put, List.setIfInBounds_toArray, List.set_cons_succ, List.set_cons_zero]
            refine plan_read _ (hi_of HO rfl) (by rw [HO.out]; rfl) (fun w' hE => by have hcE := (Ext.trans _ _ _ (by (repeat (first | exact hx113.out | apply Ext.drew | apply Ext.alloc))) hE).hc; (repeat (with_reducible replace hE := Ext.unD hE)); have hcF := hE.hc; clear hE; go_simp; rfl) ?_
            simp only [Act.put, List.setIfInBounds_toArray, List.set_cons_succ, List.set_cons_zero]
            refine plan_read _ (hi_of HO rfl) (by rw [HO.out]; rfl) (fun w' hE => by have hcE := (Ext.trans _ _ _ (by (repeat (first | exact hx113.out | apply Ext.drew | apply Ext.alloc))) hE).hc; (repeat (with_reducible replace hE := Ext.unD hE)); have hcF := hE.hc; clear hE; go_simp; rfl) ?_
            simp only [Act.put, List.setIfInBounds_toArray, List.set_cons_succ, List.set_cons_zero]
            refine plan_read _ (hi_of HO rfl) (by rw [HO.out]; rfl) (fun w' hE => by have hcE := (Ext.trans _ _ _ (by (repeat (first | exact hx113.out | apply Ext.drew | apply Ext.alloc))) hE).hc; (repeat (with_reducible replace hE := Ext.unD hE)); have hcF := hE.hc; clear hE; go_simp; rfl) ?_
            simp only [Act.put, List.setIfInBounds_toArray, List.set_cons_succ, List.set_cons_zero]
            refine plan_read _ (hi_of HO rfl) (by rw [HO.out]; rfl) (fun w' hE => by have hcE := (Ext.trans _ _ _ (by (repeat (first | exact hx113.out | apply Ext.drew | apply Ext.alloc))) hE).hc; (repeat (with_reducible replace hE := Ext.unD hE)); have hcF := hE.hc; clear hE; go_simp; rfl) ?_
            simp only [Act.put, List.setIfInBounds_toArray, List.set_cons_succ, List.set_cons_zero]
            refine plan_read _ (hi_of HO rfl) (by rw [HO.out]; rfl) (fun w' hE => by have hcE := (Ext.trans _ _ _ (by (repeat (first | exact hx113.out | apply Ext.drew | apply Ext.alloc))) hE).hc; (repeat (with_reducible replace hE := Ext.unD hE)); have hcF := hE.hc; clear hE; go_simp; rfl) ?_
            simp only [Act.put, List.setIfInBounds_toArray, List.set_cons_succ, List.set_cons_zero]
            refine plan_read _ (hi_of HO rfl) (by rw [HO.out]; rfl) (fun w' hE => by have hcE := (Ext.trans _ _ _ (by (repeat (first | exact hx113.out | apply Ext.drew | apply Ext.alloc))) hE).hc; (repeat (with_reducible replace hE := Ext.unD hE)); have hcF := hE.hc; clear hE; go_simp; rfl) ?_
            simp only [Act.put, List.setIfInBounds_toArray, List.set_cons_succ, List.set_cons_zero]
            refine plan_read _ (hi_of HO rfl) (by rw [HO.out]; rfl) (fun w' hE => by have hcE := (Ext.trans _ _ _ (by (repeat (first | exact hx113.out | apply Ext.drew | apply Ext.alloc))) hE).hc; (repeat (with_reducible replace hE := Ext.unD hE)); have hcF := hE.hc; clear hE; go_simp; rfl) ?_
            simp only [Act.put, List.setIfInBounds_toArray, List.set_cons_succ, List.set_cons_zero]
            refine plan_read _ (hi_of HO rfl) (by rw [HO.out]; rfl) (fun w' hE => by have hcE := (Ext.trans _ _ _ (by (repeat (first | exact hx113.out | apply Ext.drew | apply Ext.alloc))) hE).hc; (repeat (with_reducible replace hE := Ext.unD hE)); have hcF := hE.hc; clear hE; go_simp; rfl) ?_
            simp only [Act.put, List.setIfInBounds_toArray, List.set_cons_succ, List.set_cons_zero]
            refine plan_read _ (hi_of HO rfl) (by rw [HO.out]; rfl) (fun w' hE => by have hcE := (Ext.trans _ _ _ (by (repeat (first | exact hx113.out | apply Ext.drew | apply Ext.alloc))) hE).hc; (repeat (with_reducible replace hE := Ext.unD hE)); have hcF := hE.hc; clear hE; go_simp; rfl) ?_
            simp only [Act.put, List.setIfInBounds_toArray, List.set_cons_succ, List.set_cons_zero]
            refine plan_read _ (hi_of HO rfl) (by rw [HO.out]; rfl) (fun w' hE => by have hcE := (Ext.trans _ _ _ (by (repeat (first | exact hx113.out | apply Ext.drew | apply Ext.alloc))) hE).hc; (repeat (with_reducible replace hE := Ext.unD hE)); have hcF := hE.hc; clear hE; go_simp; rfl) ?_
            simp only [Act.put, List.setIfInBounds_toArray, List.set_cons_succ, List.set_cons_zero]
            refine plan_read _ (hi_of HO rfl) (by rw [HO.out]; rfl) (fun w' hE => by have hcE := (Ext.trans _ _ _ (by (repeat (first | exact hx113.out | apply Ext.drew | apply Ext.alloc))) hE).hc; (repeat (with_reducible replace hE := Ext.unD hE)); have hcF := hE.hc; clear hE; go_simp; rfl) ?_
            simp only [Act.put, List.setIfInBounds_toArray, List.set_cons_succ, List.set_cons_zero]
            refine plan_read _ (hi_of HO rfl) (by rw [HO.out]; rfl) (fun w' hE => by have hcE := (Ext.trans _ _ _ (by (repeat (first | exact hx113.out | apply Ext.drew | apply Ext.alloc))) hE).hc; (repeat (with_reducible replace hE := Ext.unD hE)); have hcF := hE.hc; clear hE; go_simp; rfl) ?_
            simp only [Act.put, List.setIfInBounds_toArray, List.set_cons_succ, List.set_cons_zero]
            refine plan_read _ (hi_of HO rfl) (by rw [HO.out]; rfl) (fun w' hE => by have hcE := (Ext.trans _ _ _ (by (repeat (first | exact hx113.out | apply Ext.drew | apply Ext.alloc))) hE).hc; (repeat (with_reducible replace hE := Ext.unD hE)); have hcF := hE.hc; clear hE; go_simp; rfl) ?_
            simp only [Act.put, List.setIfInBounds_toArray, List.set_cons_succ, List.set_cons_zero]
            refine plan_read _ (hi_of HO rfl) rfl (fun w' hE => by have hcE := (Ext.trans _ _ _ (by (repeat (first | exact hx113.out | apply Ext.drew | apply Ext.alloc))) hE).hc; (repeat (with_reducible replace hE := Ext.unD hE)); have hcF := hE.hc; clear hE; go_simp; rfl) ?_
            simp only [Act.put, List.setIfInBounds_toArray, List.set_cons_succ, List.set_cons_zero]
            refine plan_done ?fin115
          case' hT114 =>
            intro hb114
            simp only [Act.put, List.setIfInBounds_toArray, List.set_cons_succ, List.set_cons_zero]
            refine plan_skip (hi_of HO rfl) (by rw [HO.out]; rfl) ?_
            simp only [Act.put, List.setIfInBounds_toArray, List.set_cons_succ, List.set_cons_zero]
            refine plan_skip (hi_of HO rfl) (by rw [HO.out]; rfl) ?_
            simp only [Act.put, List.setIfInBounds_toArray, List.set_cons_succ, List.set_cons_zero]
            refine plan_skip (hi_of HO rfl) (by rw [HO.out]; rfl) ?_
            simp only [Act.put, List.setIfInBounds_toArray, List.set_cons_succ, List.set_cons_zero]
            refine plan_skip (hi_of HO rfl) (by rw [HO.out]; rfl) ?_
            simp only [Act.put, List.setIfInBounds_toArray, List.set_cons_succ, List.set_cons_zero]
            refine plan_skip (hi_of HO rfl) (by rw [HO.out]; rfl) ?_
            simp only [Act.put, List.setIfInBounds_toArray, List.set_cons_succ, List.set_cons_zero]
            refine plan_skip (hi_of HO rfl) (by rw [HO.out]; rfl) ?_
            simp only [Act.put, List.setIfInBounds_toArray, List.set_cons_succ, List.set_cons_zero]
            refine plan_skip (hi_of HO rfl) (by rw [HO.out]; rfl) ?_
            simp only [Act.put, List.setIfInBounds_toArray, List.set_cons_succ, List.set_cons_zero]
            refine plan_skip (hi_of HO rfl) (by rw [HO.out]; rfl) ?_
            simp only [Act.put, List.setIfInBounds_toArray, List.set_cons_succ, List.set_cons_zero]
            refine plan_skip (hi_of HO rfl) (by rw [HO.out]; rfl) ?_
            simp only [Act.put, List.setIfInBounds_toArray, List.set_cons_succ, List.set_cons_zero]
            refine plan_skip (hi_of HO rfl) (by rw [HO.out]; rfl) ?_
            simp only [Act.put, List.setIfInBounds_toArray, List.set_cons_succ, List.set_cons_zero]
            refine plan_skip (hi_of HO rfl) (by rw [HO.out]; rfl) ?_
            simp only [Act.put, List.setIfInBounds_toArray, List.set_cons_succ, List.set_cons_zero]
            refine plan_skip (hi_of HO rfl) (by rw [HO.out]; rfl) ?_
            simp only [Act.put, List.setIfInBounds_toArray, List.set_cons_succ, List.set_cons_zero]
            refine plan_skip (hi_of HO rfl) (by rw [HO.out]; rfl) ?_
            simp only [Act.put, List.setIfInBounds_toArray, List.set_cons_succ, List.set_cons_zero]
            refine plan_skip (hi_of HO rfl) (by rw [HO.out]; rfl) ?_
            simp only [Act.put, List.setIfInBounds_toArray, List.set_cons_succ, List.set_cons_zero]
            refine plan_read _ (hi_of HO rfl) rfl (fun w' hE => by have hcE := (Ext.trans _ _ _ (by (repeat (first | exact hx113.out | apply Ext.drew | apply Ext.alloc))) hE).hc; (repeat (with_reducible replace hE := Ext.unD hE)); have hcF := hE.hc; clear hE; go_simp; rfl) ?_
            simp only [Act.put, List.setIfInBounds_toArray, List.set_cons_succ, List.set_cons_zero]
            refine plan_done ?fin116
          all_goals go_wp2
          all_goals first
            | (go_roundw
               case rel => exact ⟨_, by omega, by go_num, HU.out (by simpa using (by assumption : (!rngHolds lo hi op K) = false)) (fun q h => by rw [HI.out] at h; cases h; simpa using (by assumption : (!Op.bytesLess J.toList K.toList) = false)), Ext.trans _ _ _ (Ext.refl _) (by assumption : Hid (Ext _ _)).out⟩
               case measure => simp [intOf]; omega)
            | (go_ret
               refine ⟨ret_int ?_, Ext.trans _ _ _ ((Ext.refl _).alloc _) (by assumption : Hid (Ext (w.alloc _) _)).out⟩
               have h116 : itemsChk lo hi op none l = 116 := HT.out (by first | exact Or.inl (by simpa using (by assumption : (!rngHolds lo hi op K) = true)) | exact Or.inr ⟨_, HI.out, by simpa using (by assumption : (!Op.bytesLess J.toList K.toList) = true)⟩)
               rw [HP.out, h116]; rfl)
      · go_wp2
        go_ret
        refine ⟨?_, Ext.trans _ _ _ ((Ext.refl _).alloc _) hx1.out⟩
        refine ret_int ?_
        rw [HP.out, HF.out, HS.out, if_pos hz, if_pos hz]
    · have e : k = l.length := by omega
      subst e
      have HN := hid_mk (show itemsChk lo hi op none l = 0 by rw [HF.out, List.drop_length]; cases prevKey l l.length <;> rfl)
      have hx0 := HX.out
      have hc0 := hx0.hc; have hl0 := hx0.hl; have he0 := hx0.hle; have hn0 := hx0.hne; replace hx0 := hid_mk hx0
      go_wp2
      all_goals go_ret
      all_goals (refine ⟨ret_int ?_, Ext.trans _ _ _ ((Ext.refl _).alloc _) hx0.out⟩)
      all_goals (rw [HP.out, HN.out, if_neg (by simp)])
      · rw [if_pos ⟨by assumption, by have h : ((l.length : Int) == 0) = true := by assumption
                                      simp at h; simp [h]⟩]
      · rw [if_neg (fun h => by have h' : ((l.length : Int) == 0) = false := by assumption
                                simp [h.2] at h')]
      · rw [if_neg (fun h => (by assumption : ¬ kind = 3) h.1)]
end Go.Proofs.YtokcgnbjkbhmiaaDoor
