/- The document's pairs of two maps. -/
import Derived.Test.YtokcgnbjkbhmiaaDoorMHP
namespace Go.Proofs.YtokcgnbjkbhmiaaDoor
open Go.RowKit
set_option maxHeartbeats 4000000
set_option maxRecDepth 100000
set_option linter.unusedSimpArgs false
set_option linter.unusedVariables false
attribute [local go_sem ↓] eql_entE neq_entE
attribute [-go_sem] Builtin.append_

def cP (p : Ent × Ent) : List Value := cE p.1 ++ cE p.2
theorem cP_len (p : Ent × Ent) : (cP p).length = 10 := rfl
def OwPr (w : World) (B : Nat) (v : Value) (l : List (Ent × Ent)) : Prop := w.ownsRow B 155 10 v l.length (l.flatMap cP)
theorem pair_info : ∃ i z, Tryd.prog.info? 155 = some i ∧ i.size = 10 ∧ i.bytes ≤ 256 ∧ i.zero = some z ∧ z.cells = #[.string ⟨#[]⟩, .int .i64 0, .int .i64 0, .string ⟨#[]⟩, .bool false, .string ⟨#[]⟩, .int .i64 0, .int .i64 0, .string ⟨#[]⟩, .bool false] := ⟨_, _, rfl, rfl, by decide, rfl, rfl⟩
theorem ownP_empty {w : World} {B g : Nat} (hg : w.heap[g]? = some (.cells #[] 155 (0, 0))) (hB : B ≤ g) : OwPr w B (.slice (some ⟨g, 0, none⟩) 0 0) [] :=
  ⟨rfl, .inr ⟨g, 0, #[], rfl, hB, hg, Nat.le_refl _, by unfold maxLen; omega, rfl, rfl⟩⟩
theorem ownP_at {w : World} {B : Nat} {v : Value} {l : List (Ent × Ent)} (h : OwPr w B v l) (hp : 0 < l.length) : ∃ g c, v = .slice (some ⟨g, 0, none⟩) l.length c ∧ ∀ i, (hi : i < l.length) → EntAt w g (i * 10) (l[i]).1 ∧ EntAt w g (i * 10 + 5) (l[i]).2 := by
  obtain ⟨g, c, hv, hc⟩ := own_cell h hp
  have k0 : ∀ k, (hk : k < l.length) → ∀ r, r < 10 → ∀ u, (cP l[k])[r]? = some u → w.cell? ⟨g, k * 10 + r, none⟩ = some u := fun k hk r hr u hu => hc _ _ ((flat_get cP 10 (by omega) cP_len l k hk r hr).trans hu)
  exact ⟨g, c, hv, fun i hi => ⟨⟨k0 i hi 0 (by omega) _ rfl, k0 i hi 1 (by omega) _ rfl, k0 i hi 2 (by omega) _ rfl, k0 i hi 3 (by omega) _ rfl, k0 i hi 4 (by omega) _ rfl⟩,
    ⟨k0 i hi 5 (by omega) _ rfl, k0 i hi 6 (by omega) _ rfl, k0 i hi 7 (by omega) _ rfl, k0 i hi 8 (by omega) _ rfl, k0 i hi 9 (by omega) _ rfl⟩⟩⟩
theorem appendP {w : World} {B b : Nat} {v : Value} {M : List (Ent × Ent)} {p : Ent × Ent} (hown : OwPr w B v M) (hb : w.heap[b]? = some (.cells (cP p).toArray 155 (0, 0))) (hl : M.length ≤ 1000000000) (hB : B ≤ w.heap.size) :
    ∃ v' w', (Builtin.append_ #[151, 151] 151 #[v, .slice (some ⟨b, 0, none⟩) 1 1]).run Tryd.prog w = .ok v' w' ∧ OwPr w' B v' (M ++ [p]) ∧ w.grownBy w' v.ownBlock := by
  obtain ⟨i0, z, hinf, hs, hby, hz, hcc⟩ := pair_info
  obtain ⟨v', w', h1, h2, h3, -, h4⟩ := run_append_own_at (P := Tryd.prog) w B 151 151 155 i0 z 10 i0.bytes Tryd.underlying151 hinf hz hs rfl (by rw [hcc]; rfl) (by omega) v M.length (M.flatMap cP) hown ⟨b, 0, none⟩ 1 1 (cP p) rfl
    (fun j u hj => by
      rw [radd_flatE, Nat.zero_add]
      simp [World.cell?, hb, hj]) (by
      intro u hu
      simp [cP, cE] at hu
      rcases hu with rfl | rfl | rfl | rfl | rfl | rfl | rfl | rfl | rfl | rfl <;> rfl) (by unfold maxLen; omega) (by
      have : (M.length + 1) * i0.bytes ≤ 1000000001 * 256 := Nat.mul_le_mul (by omega) hby
      omega) hB
  refine ⟨v', w', h1, ?_, h3⟩
  unfold OwPr
  rw [List.length_append, List.flatMap_append]
  simpa using h2
theorem prs_len : ∀ (a b : List Ent), (prs a b).length ≤ a.length + b.length
  | [], [] => by rw [prs_nn]; simp
  | x :: a, [] => by rw [prs_cn]; have := prs_len a []; simp at *; omega
  | [], y :: b => by rw [prs_nc]; have := prs_len [] b; simp at *; omega
  | x :: a, y :: b => by
    rcases h1 : Op.bytesLess x.key.toList y.key.toList with _ | _
    · rcases h2 : Op.bytesLess y.key.toList x.key.toList with _ | _
      · rw [prs_eq h1 h2]; have := prs_len a b; simp at *; omega
      · rw [prs_gt h1 h2]; have := prs_len (x :: a) b; simp at *; omega
    · rw [prs_lt h1]; have := prs_len a (y :: b); simp at *; omega
termination_by a b => a.length + b.length
theorem r9Pairs_big (a b : List Ent) (av bv : Value) (w : World) (hs : EntSl w av a) (hs' : EntSl w bv b) (ha : mChk a = 0) (hb : mChk b = 0) (hla : a.length ≤ 300000000) (hlb : b.length ≤ 300000000) :
    Calls Tryd.prog 88 #[av, bv] w fun e w' => ∃ v, e = .returned v ∧ OwPr w' w.heap.size v (prs a b) ∧ Ext w w' := by
  have HS := hid_mk (And.intro hs hs')
  have HM := hid_mk (show (if mChk a ≠ 0 then mChk a else mChk b) = 0 by rw [ha, hb]; rfl)
  obtain ⟨aa, ac, rfl, hac, ha63, hca⟩ := hs
  obtain ⟨ba, bc, rfl, hbc, hb63, hcb⟩ := hs'
  have HCA := hid_mk hca
  have HCB := hid_mk hcb
  have HLL := hid_mk (And.intro hla hlb)
  clear hca hcb ha hb hla hlb
  go_enter Tryd.func88, Tryd.ntmps88
  go_wp2_with fail
  have hx0 : Ext w (w.alloc (.cells #[] 155)) := by (repeat (first | exact Ext.refl _ | apply Ext.drew_left | apply Ext.drew | apply Ext.alloc))
  refine (r9Check2_any a b _ _ _ (HS.out.1.ext hx0) (HS.out.2.ext hx0)).mono ?_
  rintro e W1 ⟨rfl, hx1⟩
  rw [HM.out]
  have HO1 := hid_mk (own_ext (ownP_empty (w := w.alloc (.cells #[] 155)) (B := w.heap.size) (heap_alloc_new w _) (Nat.le_refl _)) hx1)
  have HX1 := hid_mk (Ext.trans _ _ _ hx0 hx1)
  clear hx0 hx1
  go_wp2_with fail
  go_loopw [5, 6, 7] (fun v i j wr => ∃ p q : Nat, i = .int .i64 ((p : Nat) : Int) ∧ j = .int .i64 ((q : Nat) : Int) ∧ p ≤ a.length ∧ q ≤ b.length ∧ (∃ pre, pre ++ prs (a.drop p) (b.drop q) = prs a b ∧ OwPr wr w.heap.size v pre) ∧ Ext w wr) (fun v i j _ => (a.length - (intOf i).toNat) + (b.length - (intOf j).toNat))
  case atStart => exact ⟨0, 0, rfl, rfl, Nat.zero_le _, Nat.zero_le _, ⟨[], by simp, HO1.out⟩, HX1.out⟩
  case round =>
    clear HO1 HX1
    rename_i v
    obtain ⟨p, q, rfl, rfl, hp, hq, ⟨pre, hpre, how⟩, hx⟩ := hrel
    have HPRE := hid_mk hpre
    have HOW := hid_mk how
    have HX := hid_mk hx
    have HPL := hid_mk (show pre.length ≤ 600000000 by
      have h1 := prs_len a b
      rw [← hpre, List.length_append] at h1
      have := HLL.out
      omega)
    have hp0 : (0 : Int) ≤ (p : Int) := by omega
    have hq0 : (0 : Int) ≤ (q : Int) := by omega
    have HWP := hid_mk (show wrap64 ((p : Int) + 1) = (p : Int) + 1 from w64in (by omega))
    have HWQ := hid_mk (show wrap64 ((q : Int) + 1) = (q : Int) + 1 from w64in (by omega))
    clear hpre how hx
    by_cases hpl : p < a.length
    · obtain ⟨xb, xo, rfl, hxl⟩ := HCA.out (by omega)
      obtain ⟨x0, x1, x2, x3, x4⟩ := (hxl p hpl).ext HX.out
      have hxbl := cell_lt x0
      have HDX := hid_mk (List.drop_eq_getElem_cons hpl)
      obtain ⟨x, hx⟩ : ∃ x, a[p] = x := ⟨_, rfl⟩
      rw [hx] at x0 x1 x2 x3 x4 HDX
      have hpe : ((p : Int) == (a.length : Int)) = false := by rw [beq_eq_false_iff_ne]; omega
      have hpi : (p : Int) < (a.length : Int) := by omega
      clear hxl hx
      by_cases hql : q < b.length
      · skip
        obtain ⟨yb, yo, rfl, hyl⟩ := HCB.out (by omega)
        obtain ⟨y0, y1, y2, y3, y4⟩ := (hyl q hql).ext HX.out
        have hybl := cell_lt y0
        have HDY := hid_mk (List.drop_eq_getElem_cons hql)
        obtain ⟨y, hy⟩ : ∃ y, b[q] = y := ⟨_, rfl⟩
        rw [hy] at y0 y1 y2 y3 y4 HDY
        have hqe : ((q : Int) == (b.length : Int)) = false := by rw [beq_eq_false_iff_ne]; omega
        have hqi : (q : Int) < (b.length : Int) := by omega
        clear hyl hy
        rcases h1 : Op.bytesLess x.key.toList y.key.toList with _ | _
        · rcases h2 : Op.bytesLess y.key.toList x.key.toList with _ | _
          · skip
            go_wp2_with fail
            refine wp_region_held_below (fun _ => true) (.quiet 0 (.quiet 1 (.quiet 2 (.quiet 3 (.quiet 4 (.quiet 5 (.quiet 6 (.quiet 7 (.quiet 8 (.quiet 9 (.quiet 10 (.quiet 11 (.quiet 12 (.quiet 13 (.quiet 14 (.quiet 15 (.quiet 16 (.quiet 17 (.quiet 18 (.quiet 19 (.quiet 20 (.quiet 21 (.quiet 22 (.quiet 23 .done)))))))))))))))))))))))) (by kernel_rfl) (by kernel_rfl) (by intro c a w d v h; cases d <;> exact h) (fun ops HO => ?_)
            refine plan_read _ (hi_of HO rfl) rfl (fun w' hE => by (repeat (with_reducible replace hE := Ext.unD hE)); have hcE := hE.hc; clear hE; go_simp; rfl) ?_
            simp only [Act.put, List.setIfInBounds_toArray, List.set_cons_succ, List.set_cons_zero]
            refine plan_read _ (hi_of HO rfl) rfl (fun w' hE => by (repeat (with_reducible replace hE := Ext.unD hE)); have hcE := hE.hc; clear hE; go_simp; rfl) ?_
            simp only [Act.put, List.setIfInBounds_toArray, List.set_cons_succ, List.set_cons_zero]
            refine plan_read _ (hi_of HO rfl) rfl (fun w' hE => by (repeat (with_reducible replace hE := Ext.unD hE)); have hcE := hE.hc; clear hE; go_simp; rfl) ?_
            simp only [Act.put, List.setIfInBounds_toArray, List.set_cons_succ, List.set_cons_zero]
            refine plan_read _ (hi_of HO rfl) rfl (fun w' hE => by (repeat (with_reducible replace hE := Ext.unD hE)); have hcE := hE.hc; clear hE; go_simp; rfl) ?_
            simp only [Act.put, List.setIfInBounds_toArray, List.set_cons_succ, List.set_cons_zero]
            refine plan_read _ (hi_of HO rfl) rfl (fun w' hE => by (repeat (with_reducible replace hE := Ext.unD hE)); have hcE := hE.hc; clear hE; go_simp; rfl) ?_
            simp only [Act.put, List.setIfInBounds_toArray, List.set_cons_succ, List.set_cons_zero]
            refine plan_read _ (hi_of HO rfl) (by rw [HO.out]; rfl) (fun w' hE => by (repeat (with_reducible replace hE := Ext.unD hE)); have hcE := hE.hc; clear hE; go_simp; rfl) ?_
            simp only [Act.put, List.setIfInBounds_toArray, List.set_cons_succ, List.set_cons_zero]
            refine plan_read _ (hi_of HO rfl) (by rw [HO.out]; rfl) (fun w' hE => by (repeat (with_reducible replace hE := Ext.unD hE)); have hcE := hE.hc; clear hE; go_simp; rfl) ?_
            simp only [Act.put, List.setIfInBounds_toArray, List.set_cons_succ, List.set_cons_zero]
            refine plan_read _ (hi_of HO rfl) (by rw [HO.out]; rfl) (fun w' hE => by (repeat (with_reducible replace hE := Ext.unD hE)); have hcE := hE.hc; clear hE; go_simp; rfl) ?_
            simp only [Act.put, List.setIfInBounds_toArray, List.set_cons_succ, List.set_cons_zero]
            refine plan_read _ (hi_of HO rfl) (by rw [HO.out]; rfl) (fun w' hE => by (repeat (with_reducible replace hE := Ext.unD hE)); have hcE := hE.hc; clear hE; go_simp; rfl) ?_
            simp only [Act.put, List.setIfInBounds_toArray, List.set_cons_succ, List.set_cons_zero]
            refine plan_read _ (hi_of HO rfl) (by rw [HO.out]; rfl) (fun w' hE => by (repeat (with_reducible replace hE := Ext.unD hE)); have hcE := hE.hc; clear hE; go_simp; rfl) ?_
            simp only [Act.put, List.setIfInBounds_toArray, List.set_cons_succ, List.set_cons_zero]
            refine plan_read _ (hi_of HO rfl) (by rw [HO.out]; rfl) (fun w' hE => by (repeat (with_reducible replace hE := Ext.unD hE)); have hcE := hE.hc; clear hE; go_simp; rfl) ?_
            simp only [Act.put, List.setIfInBounds_toArray, List.set_cons_succ, List.set_cons_zero]
            refine plan_read _ (hi_of HO rfl) (by rw [HO.out]; rfl) (fun w' hE => by (repeat (with_reducible replace hE := Ext.unD hE)); have hcE := hE.hc; clear hE; go_simp; rfl) ?_
            simp only [Act.put, List.setIfInBounds_toArray, List.set_cons_succ, List.set_cons_zero]
            refine plan_read _ (hi_of HO rfl) (by rw [HO.out]; rfl) (fun w' hE => by (repeat (with_reducible replace hE := Ext.unD hE)); have hcE := hE.hc; clear hE; go_simp; rfl) ?_
            simp only [Act.put, List.setIfInBounds_toArray, List.set_cons_succ, List.set_cons_zero]
            refine plan_read _ (hi_of HO rfl) (by rw [HO.out]; rfl) (fun w' hE => by (repeat (with_reducible replace hE := Ext.unD hE)); have hcE := hE.hc; clear hE; go_simp; rfl) ?_
            simp only [Act.put, List.setIfInBounds_toArray, List.set_cons_succ, List.set_cons_zero]
            refine plan_read _ (hi_of HO rfl) (by rw [HO.out]; rfl) (fun w' hE => by (repeat (with_reducible replace hE := Ext.unD hE)); have hcE := hE.hc; clear hE; go_simp; rfl) ?_
            simp only [Act.put, List.setIfInBounds_toArray, List.set_cons_succ, List.set_cons_zero]
            refine plan_read _ (hi_of HO rfl) (by rw [HO.out]; rfl) (fun w' hE => by (repeat (with_reducible replace hE := Ext.unD hE)); have hcE := hE.hc; clear hE; go_simp; rfl) ?_
            simp only [Act.put, List.setIfInBounds_toArray, List.set_cons_succ, List.set_cons_zero]
            refine plan_read _ (hi_of HO rfl) (by rw [HO.out]; rfl) (fun w' hE => by (repeat (with_reducible replace hE := Ext.unD hE)); have hcE := hE.hc; clear hE; go_simp; rfl) ?_
            simp only [Act.put, List.setIfInBounds_toArray, List.set_cons_succ, List.set_cons_zero]
            refine plan_read _ (hi_of HO rfl) (by rw [HO.out]; rfl) (fun w' hE => by (repeat (with_reducible replace hE := Ext.unD hE)); have hcE := hE.hc; clear hE; go_simp; rfl) ?_
            simp only [Act.put, List.setIfInBounds_toArray, List.set_cons_succ, List.set_cons_zero]
            refine plan_read _ (hi_of HO rfl) (by rw [HO.out]; rfl) (fun w' hE => by (repeat (with_reducible replace hE := Ext.unD hE)); have hcE := hE.hc; clear hE; go_simp; rfl) ?_
            simp only [Act.put, List.setIfInBounds_toArray, List.set_cons_succ, List.set_cons_zero]
            refine plan_read _ (hi_of HO rfl) (by rw [HO.out]; rfl) (fun w' hE => by (repeat (with_reducible replace hE := Ext.unD hE)); have hcE := hE.hc; clear hE; go_simp; rfl) ?_
            simp only [Act.put, List.setIfInBounds_toArray, List.set_cons_succ, List.set_cons_zero]
            refine plan_read _ (hi_of HO rfl) (by rw [HO.out]; rfl) (fun w' hE => by (repeat (with_reducible replace hE := Ext.unD hE)); have hcE := hE.hc; clear hE; go_simp; rfl) ?_
            simp only [Act.put, List.setIfInBounds_toArray, List.set_cons_succ, List.set_cons_zero]
            refine plan_read _ (hi_of HO rfl) (by rw [HO.out]; rfl) (fun w' hE => by (repeat (with_reducible replace hE := Ext.unD hE)); have hcE := hE.hc; clear hE; go_simp; rfl) ?_
            simp only [Act.put, List.setIfInBounds_toArray, List.set_cons_succ, List.set_cons_zero]
            refine plan_read _ (hi_of HO rfl) rfl (fun w' hE => by (repeat (with_reducible replace hE := Ext.unD hE)); have hcE := hE.hc; clear hE; go_simp; rfl) ?_
            simp only [Act.put, List.setIfInBounds_toArray, List.set_cons_succ, List.set_cons_zero]
            refine plan_read _ (hi_of HO rfl) rfl (fun w' hE => by (repeat (with_reducible replace hE := Ext.unD hE)); have hcE := hE.hc; clear hE; go_simp; rfl) ?_
            simp only [Act.put, List.setIfInBounds_toArray, List.set_cons_succ, List.set_cons_zero]
            refine plan_done ?fin101
            go_wp2_with fail
            refine wp_region_held_below (fun _ => true) (.quiet 0 (.quiet 1 (.quiet 2 (.quiet 3 (.quiet 4 (.quiet 5 (.quiet 6 (.quiet 7 (.quiet 8 (.quiet 9 (.quiet 10 (.quiet 11 (.quiet 12 (.quiet 13 (.quiet 14 (.quiet 15 (.quiet 16 (.quiet 17 .done)))))))))))))))))) (by kernel_rfl) (by kernel_rfl) (by intro c a w d v h; cases d <;> exact h) (fun ops HO => ?_)
            refine plan_read _ (hi_of HO rfl) rfl (fun w' hE => by (repeat (with_reducible replace hE := Ext.unD hE)); have hcE := hE.hc; clear hE; go_simp; rfl) ?_
            simp only [Act.put, List.setIfInBounds_toArray, List.set_cons_succ, List.set_cons_zero]
            refine plan_read _ (hi_of HO rfl) rfl (fun w' hE => by (repeat (with_reducible replace hE := Ext.unD hE)); have hcE := hE.hc; clear hE; go_simp; rfl) ?_
            simp only [Act.put, List.setIfInBounds_toArray, List.set_cons_succ, List.set_cons_zero]
            refine plan_read _ (hi_of HO rfl) rfl (fun w' hE => by (repeat (with_reducible replace hE := Ext.unD hE)); have hcE := hE.hc; clear hE; go_simp; rfl) ?_
            simp only [Act.put, List.setIfInBounds_toArray, List.set_cons_succ, List.set_cons_zero]
            refine plan_read _ (hi_of HO rfl) rfl (fun w' hE => by (repeat (with_reducible replace hE := Ext.unD hE)); have hcE := hE.hc; clear hE; go_simp; rfl) ?_
            simp only [Act.put, List.setIfInBounds_toArray, List.set_cons_succ, List.set_cons_zero]
            refine plan_read _ (hi_of HO rfl) rfl (fun w' hE => by (repeat (with_reducible replace hE := Ext.unD hE)); have hcE := hE.hc; clear hE; go_simp; rfl) ?_
            simp only [Act.put, List.setIfInBounds_toArray, List.set_cons_succ, List.set_cons_zero]
            refine plan_read _ (hi_of HO rfl) (by rw [HO.out]; rfl) (fun w' hE => by (repeat (with_reducible replace hE := Ext.unD hE)); have hcE := hE.hc; clear hE; go_simp; rfl) ?_
            simp only [Act.put, List.setIfInBounds_toArray, List.set_cons_succ, List.set_cons_zero]
            refine plan_read _ (hi_of HO rfl) (by rw [HO.out]; rfl) (fun w' hE => by (repeat (with_reducible replace hE := Ext.unD hE)); have hcE := hE.hc; clear hE; go_simp; rfl) ?_
            simp only [Act.put, List.setIfInBounds_toArray, List.set_cons_succ, List.set_cons_zero]
            refine plan_read _ (hi_of HO rfl) (by rw [HO.out]; rfl) (fun w' hE => by (repeat (with_reducible replace hE := Ext.unD hE)); have hcE := hE.hc; clear hE; go_simp; rfl) ?_
            simp only [Act.put, List.setIfInBounds_toArray, List.set_cons_succ, List.set_cons_zero]
            refine plan_read _ (hi_of HO rfl) (by rw [HO.out]; rfl) (fun w' hE => by (repeat (with_reducible replace hE := Ext.unD hE)); have hcE := hE.hc; clear hE; go_simp; rfl) ?_
            simp only [Act.put, List.setIfInBounds_toArray, List.set_cons_succ, List.set_cons_zero]
            refine plan_read _ (hi_of HO rfl) (by rw [HO.out]; rfl) (fun w' hE => by (repeat (with_reducible replace hE := Ext.unD hE)); have hcE := hE.hc; clear hE; go_simp; rfl) ?_
            simp only [Act.put, List.setIfInBounds_toArray, List.set_cons_succ, List.set_cons_zero]
            refine plan_read _ (hi_of HO rfl) (by rw [HO.out]; rfl) (fun w' hE => by (repeat (with_reducible replace hE := Ext.unD hE)); have hcE := hE.hc; clear hE; go_simp; rfl) ?_
            simp only [Act.put, List.setIfInBounds_toArray, List.set_cons_succ, List.set_cons_zero]
            refine plan_read _ (hi_of HO rfl) (by rw [HO.out]; rfl) (fun w' hE => by (repeat (with_reducible replace hE := Ext.unD hE)); have hcE := hE.hc; clear hE; go_simp; rfl) ?_
            simp only [Act.put, List.setIfInBounds_toArray, List.set_cons_succ, List.set_cons_zero]
            refine plan_read _ (hi_of HO rfl) (by rw [HO.out]; rfl) (fun w' hE => by (repeat (with_reducible replace hE := Ext.unD hE)); have hcE := hE.hc; clear hE; go_simp; rfl) ?_
            simp only [Act.put, List.setIfInBounds_toArray, List.set_cons_succ, List.set_cons_zero]
            refine plan_read _ (hi_of HO rfl) (by rw [HO.out]; rfl) (fun w' hE => by (repeat (with_reducible replace hE := Ext.unD hE)); have hcE := hE.hc; clear hE; go_simp; rfl) ?_
            simp only [Act.put, List.setIfInBounds_toArray, List.set_cons_succ, List.set_cons_zero]
            refine plan_read _ (hi_of HO rfl) (by rw [HO.out]; rfl) (fun w' hE => by (repeat (with_reducible replace hE := Ext.unD hE)); have hcE := hE.hc; clear hE; go_simp; rfl) ?_
            simp only [Act.put, List.setIfInBounds_toArray, List.set_cons_succ, List.set_cons_zero]
            refine plan_read _ (hi_of HO rfl) (by rw [HO.out]; rfl) (fun w' hE => by (repeat (with_reducible replace hE := Ext.unD hE)); have hcE := hE.hc; clear hE; go_simp; rfl) ?_
            simp only [Act.put, List.setIfInBounds_toArray, List.set_cons_succ, List.set_cons_zero]
            refine plan_read _ (hi_of HO rfl) rfl (fun w' hE => by (repeat (with_reducible replace hE := Ext.unD hE)); have hcE := hE.hc; clear hE; go_simp; rfl) ?_
            simp only [Act.put, List.setIfInBounds_toArray, List.set_cons_succ, List.set_cons_zero]
            refine plan_read _ (hi_of HO rfl) rfl (fun w' hE => by (repeat (with_reducible replace hE := Ext.unD hE)); have hcE := hE.hc; clear hE; go_simp; rfl) ?_
            simp only [Act.put, List.setIfInBounds_toArray, List.set_cons_succ, List.set_cons_zero]
            refine plan_done ?fin102
            refine gen_world (P := Tryd.prog) (fun W5 => Ext wr W5) (by first | exact (Ext.refl _).drew | exact Ext.drew (Ext.drew (Ext.refl _)) | exact Ext.refl _) ?_
            intro W5 hx5
            replace x0 := cell_ext hx5 x0
            replace x1 := cell_ext hx5 x1
            replace x2 := cell_ext hx5 x2
            replace x3 := cell_ext hx5 x3
            replace x4 := cell_ext hx5 x4
            replace hxbl := cell_lt x0
            replace y0 := cell_ext hx5 y0
            replace y1 := cell_ext hx5 y1
            replace y2 := cell_ext hx5 y2
            replace y3 := cell_ext hx5 y3
            replace y4 := cell_ext hx5 y4
            replace hybl := cell_lt y0
            obtain ⟨oa, oc, eo⟩ := own_form HOW.out
            subst eo
            have hxa : Ext wr ((W5.alloc (.cells (cP (x, y)).toArray 155)).drew) := by first | exact Ext.trans _ _ _ hx5 ((Ext.refl W5).alloc _) | exact Ext.trans _ _ _ hx5 (Ext.drew ((Ext.refl W5).alloc _))
            obtain ⟨v', w', hrun, ho, hg⟩ := appendP (w := (W5.alloc (.cells (cP (x, y)).toArray 155)).drew) (b := W5.heap.size) (p := (x, y)) (own_ext HOW.out hxa) (heap_alloc_new W5 _) (by have := HPL.out; omega) (by have := HX.out.below.size; have := hxa.below.size; omega)
            have hxw := ext_grown (Ext.trans _ _ _ HX.out hxa) hg (own_ext HOW.out hxa) (Nat.le_refl _)
            have HPN := hid_mk (show pre ++ [(x, y)] ++ prs (a.drop (p + 1)) (b.drop (q + 1)) = prs a b by rw [← HPRE.out, List.append_assoc]; congr 1; symm; rw [HDX.out, HDY.out, prs_eq h1 h2] <;> rfl)
            have HOF := hid_mk (And.intro ho hxw)
            obtain ⟨va, vc, eva⟩ := own_form ho
            subst eva
            rw [show (pre ++ [(x, y)]).length = pre.length + 1 by simp] at hrun HOF
            simp only [cP, cE, zE, List.cons_append, List.nil_append] at hrun
            clear ho hg hxw hxa
            go_wp2
            (go_region; go_wp2)
            go_roundw
            case rel => exact ⟨p + 1, q + 1, by first | rfl | exact congrArg (Value.int .i64) HWP.out, by first | rfl | exact congrArg (Value.int .i64) HWQ.out, by omega, by omega, ⟨_, HPN.out, HOF.out.1⟩, HOF.out.2⟩
            case measure => (try simp only [HWP.out]); (try simp only [HWQ.out]); simp [intOf]; omega
          · skip
            go_wp2_with fail
            refine wp_region_held_below (fun _ => true) (.quiet 0 (.quiet 1 (.quiet 2 (.quiet 3 (.quiet 4 (.quiet 5 (.quiet 6 (.quiet 7 (.quiet 8 (.quiet 9 (.quiet 10 (.quiet 11 (.quiet 12 (.quiet 13 (.quiet 14 (.quiet 15 (.quiet 16 (.quiet 17 (.quiet 18 (.quiet 19 (.quiet 20 (.quiet 21 (.quiet 22 (.quiet 23 .done)))))))))))))))))))))))) (by kernel_rfl) (by kernel_rfl) (by intro c a w d v h; cases d <;> exact h) (fun ops HO => ?_)
            refine plan_read _ (hi_of HO rfl) rfl (fun w' hE => by (repeat (with_reducible replace hE := Ext.unD hE)); have hcE := hE.hc; clear hE; go_simp; rfl) ?_
            simp only [Act.put, List.setIfInBounds_toArray, List.set_cons_succ, List.set_cons_zero]
            refine plan_read _ (hi_of HO rfl) rfl (fun w' hE => by (repeat (with_reducible replace hE := Ext.unD hE)); have hcE := hE.hc; clear hE; go_simp; rfl) ?_
            simp only [Act.put, List.setIfInBounds_toArray, List.set_cons_succ, List.set_cons_zero]
            refine plan_read _ (hi_of HO rfl) rfl (fun w' hE => by (repeat (with_reducible replace hE := Ext.unD hE)); have hcE := hE.hc; clear hE; go_simp; rfl) ?_
            simp only [Act.put, List.setIfInBounds_toArray, List.set_cons_succ, List.set_cons_zero]
            refine plan_read _ (hi_of HO rfl) rfl (fun w' hE => by (repeat (with_reducible replace hE := Ext.unD hE)); have hcE := hE.hc; clear hE; go_simp; rfl) ?_
            simp only [Act.put, List.setIfInBounds_toArray, List.set_cons_succ, List.set_cons_zero]
            refine plan_read _ (hi_of HO rfl) rfl (fun w' hE => by (repeat (with_reducible replace hE := Ext.unD hE)); have hcE := hE.hc; clear hE; go_simp; rfl) ?_
            simp only [Act.put, List.setIfInBounds_toArray, List.set_cons_succ, List.set_cons_zero]
            refine plan_read _ (hi_of HO rfl) (by rw [HO.out]; rfl) (fun w' hE => by (repeat (with_reducible replace hE := Ext.unD hE)); have hcE := hE.hc; clear hE; go_simp; rfl) ?_
            simp only [Act.put, List.setIfInBounds_toArray, List.set_cons_succ, List.set_cons_zero]
            refine plan_read _ (hi_of HO rfl) (by rw [HO.out]; rfl) (fun w' hE => by (repeat (with_reducible replace hE := Ext.unD hE)); have hcE := hE.hc; clear hE; go_simp; rfl) ?_
            simp only [Act.put, List.setIfInBounds_toArray, List.set_cons_succ, List.set_cons_zero]
            refine plan_read _ (hi_of HO rfl) (by rw [HO.out]; rfl) (fun w' hE => by (repeat (with_reducible replace hE := Ext.unD hE)); have hcE := hE.hc; clear hE; go_simp; rfl) ?_
            simp only [Act.put, List.setIfInBounds_toArray, List.set_cons_succ, List.set_cons_zero]
            refine plan_read _ (hi_of HO rfl) (by rw [HO.out]; rfl) (fun w' hE => by (repeat (with_reducible replace hE := Ext.unD hE)); have hcE := hE.hc; clear hE; go_simp; rfl) ?_
            simp only [Act.put, List.setIfInBounds_toArray, List.set_cons_succ, List.set_cons_zero]
            refine plan_read _ (hi_of HO rfl) (by rw [HO.out]; rfl) (fun w' hE => by (repeat (with_reducible replace hE := Ext.unD hE)); have hcE := hE.hc; clear hE; go_simp; rfl) ?_
            simp only [Act.put, List.setIfInBounds_toArray, List.set_cons_succ, List.set_cons_zero]
            refine plan_read _ (hi_of HO rfl) (by rw [HO.out]; rfl) (fun w' hE => by (repeat (with_reducible replace hE := Ext.unD hE)); have hcE := hE.hc; clear hE; go_simp; rfl) ?_
            simp only [Act.put, List.setIfInBounds_toArray, List.set_cons_succ, List.set_cons_zero]
            refine plan_read _ (hi_of HO rfl) (by rw [HO.out]; rfl) (fun w' hE => by (repeat (with_reducible replace hE := Ext.unD hE)); have hcE := hE.hc; clear hE; go_simp; rfl) ?_
            simp only [Act.put, List.setIfInBounds_toArray, List.set_cons_succ, List.set_cons_zero]
            refine plan_read _ (hi_of HO rfl) (by rw [HO.out]; rfl) (fun w' hE => by (repeat (with_reducible replace hE := Ext.unD hE)); have hcE := hE.hc; clear hE; go_simp; rfl) ?_
            simp only [Act.put, List.setIfInBounds_toArray, List.set_cons_succ, List.set_cons_zero]
            refine plan_read _ (hi_of HO rfl) (by rw [HO.out]; rfl) (fun w' hE => by (repeat (with_reducible replace hE := Ext.unD hE)); have hcE := hE.hc; clear hE; go_simp; rfl) ?_
            simp only [Act.put, List.setIfInBounds_toArray, List.set_cons_succ, List.set_cons_zero]
            refine plan_read _ (hi_of HO rfl) (by rw [HO.out]; rfl) (fun w' hE => by (repeat (with_reducible replace hE := Ext.unD hE)); have hcE := hE.hc; clear hE; go_simp; rfl) ?_
            simp only [Act.put, List.setIfInBounds_toArray, List.set_cons_succ, List.set_cons_zero]
            refine plan_read _ (hi_of HO rfl) (by rw [HO.out]; rfl) (fun w' hE => by (repeat (with_reducible replace hE := Ext.unD hE)); have hcE := hE.hc; clear hE; go_simp; rfl) ?_
            simp only [Act.put, List.setIfInBounds_toArray, List.set_cons_succ, List.set_cons_zero]
            refine plan_read _ (hi_of HO rfl) (by rw [HO.out]; rfl) (fun w' hE => by (repeat (with_reducible replace hE := Ext.unD hE)); have hcE := hE.hc; clear hE; go_simp; rfl) ?_
            simp only [Act.put, List.setIfInBounds_toArray, List.set_cons_succ, List.set_cons_zero]
            refine plan_read _ (hi_of HO rfl) (by rw [HO.out]; rfl) (fun w' hE => by (repeat (with_reducible replace hE := Ext.unD hE)); have hcE := hE.hc; clear hE; go_simp; rfl) ?_
            simp only [Act.put, List.setIfInBounds_toArray, List.set_cons_succ, List.set_cons_zero]
            refine plan_read _ (hi_of HO rfl) (by rw [HO.out]; rfl) (fun w' hE => by (repeat (with_reducible replace hE := Ext.unD hE)); have hcE := hE.hc; clear hE; go_simp; rfl) ?_
            simp only [Act.put, List.setIfInBounds_toArray, List.set_cons_succ, List.set_cons_zero]
            refine plan_read _ (hi_of HO rfl) (by rw [HO.out]; rfl) (fun w' hE => by (repeat (with_reducible replace hE := Ext.unD hE)); have hcE := hE.hc; clear hE; go_simp; rfl) ?_
            simp only [Act.put, List.setIfInBounds_toArray, List.set_cons_succ, List.set_cons_zero]
            refine plan_read _ (hi_of HO rfl) (by rw [HO.out]; rfl) (fun w' hE => by (repeat (with_reducible replace hE := Ext.unD hE)); have hcE := hE.hc; clear hE; go_simp; rfl) ?_
            simp only [Act.put, List.setIfInBounds_toArray, List.set_cons_succ, List.set_cons_zero]
            refine plan_read _ (hi_of HO rfl) (by rw [HO.out]; rfl) (fun w' hE => by (repeat (with_reducible replace hE := Ext.unD hE)); have hcE := hE.hc; clear hE; go_simp; rfl) ?_
            simp only [Act.put, List.setIfInBounds_toArray, List.set_cons_succ, List.set_cons_zero]
            refine plan_read _ (hi_of HO rfl) rfl (fun w' hE => by (repeat (with_reducible replace hE := Ext.unD hE)); have hcE := hE.hc; clear hE; go_simp; rfl) ?_
            simp only [Act.put, List.setIfInBounds_toArray, List.set_cons_succ, List.set_cons_zero]
            refine plan_read _ (hi_of HO rfl) rfl (fun w' hE => by (repeat (with_reducible replace hE := Ext.unD hE)); have hcE := hE.hc; clear hE; go_simp; rfl) ?_
            simp only [Act.put, List.setIfInBounds_toArray, List.set_cons_succ, List.set_cons_zero]
            refine plan_done ?fin103
            go_wp2_with fail
            refine wp_region_held_below (fun _ => true) (.quiet 0 (.quiet 1 (.quiet 2 (.quiet 3 (.quiet 4 (.quiet 5 (.quiet 6 (.quiet 7 (.quiet 8 (.quiet 9 (.quiet 10 (.quiet 11 (.quiet 12 (.quiet 13 (.quiet 14 (.quiet 15 (.quiet 16 (.quiet 17 .done)))))))))))))))))) (by kernel_rfl) (by kernel_rfl) (by intro c a w d v h; cases d <;> exact h) (fun ops HO => ?_)
            refine plan_read _ (hi_of HO rfl) rfl (fun w' hE => by (repeat (with_reducible replace hE := Ext.unD hE)); have hcE := hE.hc; clear hE; go_simp; rfl) ?_
            simp only [Act.put, List.setIfInBounds_toArray, List.set_cons_succ, List.set_cons_zero]
            refine plan_read _ (hi_of HO rfl) rfl (fun w' hE => by (repeat (with_reducible replace hE := Ext.unD hE)); have hcE := hE.hc; clear hE; go_simp; rfl) ?_
            simp only [Act.put, List.setIfInBounds_toArray, List.set_cons_succ, List.set_cons_zero]
            refine plan_read _ (hi_of HO rfl) rfl (fun w' hE => by (repeat (with_reducible replace hE := Ext.unD hE)); have hcE := hE.hc; clear hE; go_simp; rfl) ?_
            simp only [Act.put, List.setIfInBounds_toArray, List.set_cons_succ, List.set_cons_zero]
            refine plan_read _ (hi_of HO rfl) rfl (fun w' hE => by (repeat (with_reducible replace hE := Ext.unD hE)); have hcE := hE.hc; clear hE; go_simp; rfl) ?_
            simp only [Act.put, List.setIfInBounds_toArray, List.set_cons_succ, List.set_cons_zero]
            refine plan_read _ (hi_of HO rfl) rfl (fun w' hE => by (repeat (with_reducible replace hE := Ext.unD hE)); have hcE := hE.hc; clear hE; go_simp; rfl) ?_
            simp only [Act.put, List.setIfInBounds_toArray, List.set_cons_succ, List.set_cons_zero]
            refine plan_read _ (hi_of HO rfl) (by rw [HO.out]; rfl) (fun w' hE => by (repeat (with_reducible replace hE := Ext.unD hE)); have hcE := hE.hc; clear hE; go_simp; rfl) ?_
            simp only [Act.put, List.setIfInBounds_toArray, List.set_cons_succ, List.set_cons_zero]
            refine plan_read _ (hi_of HO rfl) (by rw [HO.out]; rfl) (fun w' hE => by (repeat (with_reducible replace hE := Ext.unD hE)); have hcE := hE.hc; clear hE; go_simp; rfl) ?_
            simp only [Act.put, List.setIfInBounds_toArray, List.set_cons_succ, List.set_cons_zero]
            refine plan_read _ (hi_of HO rfl) (by rw [HO.out]; rfl) (fun w' hE => by (repeat (with_reducible replace hE := Ext.unD hE)); have hcE := hE.hc; clear hE; go_simp; rfl) ?_
            simp only [Act.put, List.setIfInBounds_toArray, List.set_cons_succ, List.set_cons_zero]
            refine plan_read _ (hi_of HO rfl) (by rw [HO.out]; rfl) (fun w' hE => by (repeat (with_reducible replace hE := Ext.unD hE)); have hcE := hE.hc; clear hE; go_simp; rfl) ?_
            simp only [Act.put, List.setIfInBounds_toArray, List.set_cons_succ, List.set_cons_zero]
            refine plan_read _ (hi_of HO rfl) (by rw [HO.out]; rfl) (fun w' hE => by (repeat (with_reducible replace hE := Ext.unD hE)); have hcE := hE.hc; clear hE; go_simp; rfl) ?_
            simp only [Act.put, List.setIfInBounds_toArray, List.set_cons_succ, List.set_cons_zero]
            refine plan_read _ (hi_of HO rfl) (by rw [HO.out]; rfl) (fun w' hE => by (repeat (with_reducible replace hE := Ext.unD hE)); have hcE := hE.hc; clear hE; go_simp; rfl) ?_
            simp only [Act.put, List.setIfInBounds_toArray, List.set_cons_succ, List.set_cons_zero]
            refine plan_read _ (hi_of HO rfl) (by rw [HO.out]; rfl) (fun w' hE => by (repeat (with_reducible replace hE := Ext.unD hE)); have hcE := hE.hc; clear hE; go_simp; rfl) ?_
            simp only [Act.put, List.setIfInBounds_toArray, List.set_cons_succ, List.set_cons_zero]
            refine plan_read _ (hi_of HO rfl) (by rw [HO.out]; rfl) (fun w' hE => by (repeat (with_reducible replace hE := Ext.unD hE)); have hcE := hE.hc; clear hE; go_simp; rfl) ?_
            simp only [Act.put, List.setIfInBounds_toArray, List.set_cons_succ, List.set_cons_zero]
            refine plan_read _ (hi_of HO rfl) (by rw [HO.out]; rfl) (fun w' hE => by (repeat (with_reducible replace hE := Ext.unD hE)); have hcE := hE.hc; clear hE; go_simp; rfl) ?_
            simp only [Act.put, List.setIfInBounds_toArray, List.set_cons_succ, List.set_cons_zero]
            refine plan_read _ (hi_of HO rfl) (by rw [HO.out]; rfl) (fun w' hE => by (repeat (with_reducible replace hE := Ext.unD hE)); have hcE := hE.hc; clear hE; go_simp; rfl) ?_
            simp only [Act.put, List.setIfInBounds_toArray, List.set_cons_succ, List.set_cons_zero]
            refine plan_read _ (hi_of HO rfl) (by rw [HO.out]; rfl) (fun w' hE => by (repeat (with_reducible replace hE := Ext.unD hE)); have hcE := hE.hc; clear hE; go_simp; rfl) ?_
            simp only [Act.put, List.setIfInBounds_toArray, List.set_cons_succ, List.set_cons_zero]
            refine plan_read _ (hi_of HO rfl) rfl (fun w' hE => by (repeat (with_reducible replace hE := Ext.unD hE)); have hcE := hE.hc; clear hE; go_simp; rfl) ?_
            simp only [Act.put, List.setIfInBounds_toArray, List.set_cons_succ, List.set_cons_zero]
            refine plan_read _ (hi_of HO rfl) rfl (fun w' hE => by (repeat (with_reducible replace hE := Ext.unD hE)); have hcE := hE.hc; clear hE; go_simp; rfl) ?_
            simp only [Act.put, List.setIfInBounds_toArray, List.set_cons_succ, List.set_cons_zero]
            refine plan_done ?fin104
            refine gen_world (P := Tryd.prog) (fun W5 => Ext wr W5) (by first | exact (Ext.refl _).drew | exact Ext.drew (Ext.drew (Ext.refl _)) | exact Ext.refl _) ?_
            intro W5 hx5
            replace y0 := cell_ext hx5 y0
            replace y1 := cell_ext hx5 y1
            replace y2 := cell_ext hx5 y2
            replace y3 := cell_ext hx5 y3
            replace y4 := cell_ext hx5 y4
            replace hybl := cell_lt y0
            obtain ⟨oa, oc, eo⟩ := own_form HOW.out
            subst eo
            have hxa : Ext wr (W5.alloc (.cells (cP (zE, y)).toArray 155)) := by first | exact Ext.trans _ _ _ hx5 ((Ext.refl W5).alloc _) | exact Ext.trans _ _ _ hx5 (Ext.drew ((Ext.refl W5).alloc _))
            obtain ⟨v', w', hrun, ho, hg⟩ := appendP (w := W5.alloc (.cells (cP (zE, y)).toArray 155)) (b := W5.heap.size) (p := (zE, y)) (own_ext HOW.out hxa) (heap_alloc_new W5 _) (by have := HPL.out; omega) (by have := HX.out.below.size; have := hxa.below.size; omega)
            have hxw := ext_grown (Ext.trans _ _ _ HX.out hxa) hg (own_ext HOW.out hxa) (Nat.le_refl _)
            have HPN := hid_mk (show pre ++ [(zE, y)] ++ prs (a.drop (p)) (b.drop (q + 1)) = prs a b by rw [← HPRE.out, List.append_assoc]; congr 1; symm; rw [HDX.out, HDY.out, prs_gt h1 h2] <;> rfl)
            have HOF := hid_mk (And.intro ho hxw)
            obtain ⟨va, vc, eva⟩ := own_form ho
            subst eva
            rw [show (pre ++ [(zE, y)]).length = pre.length + 1 by simp] at hrun HOF
            simp only [cP, cE, zE, List.cons_append, List.nil_append] at hrun
            clear ho hg hxw hxa
            go_wp2
            skip
            go_roundw
            case rel => exact ⟨p, q + 1, by first | rfl | exact congrArg (Value.int .i64) HWP.out, by first | rfl | exact congrArg (Value.int .i64) HWQ.out, by omega, by omega, ⟨_, HPN.out, HOF.out.1⟩, HOF.out.2⟩
            case measure => (try simp only [HWP.out]); (try simp only [HWQ.out]); simp [intOf]; omega
        · skip
          go_wp2_with fail
          refine wp_region_held_below (fun _ => true) (.quiet 0 (.quiet 1 (.quiet 2 (.quiet 3 (.quiet 4 (.quiet 5 (.quiet 6 (.quiet 7 (.quiet 8 (.quiet 9 (.quiet 10 (.quiet 11 (.quiet 12 (.quiet 13 (.quiet 14 (.quiet 15 (.quiet 16 (.quiet 17 (.quiet 18 (.quiet 19 (.quiet 20 (.quiet 21 (.quiet 22 (.quiet 23 .done)))))))))))))))))))))))) (by kernel_rfl) (by kernel_rfl) (by intro c a w d v h; cases d <;> exact h) (fun ops HO => ?_)
          refine plan_read _ (hi_of HO rfl) rfl (fun w' hE => by (repeat (with_reducible replace hE := Ext.unD hE)); have hcE := hE.hc; clear hE; go_simp; rfl) ?_
          simp only [Act.put, List.setIfInBounds_toArray, List.set_cons_succ, List.set_cons_zero]
          refine plan_read _ (hi_of HO rfl) rfl (fun w' hE => by (repeat (with_reducible replace hE := Ext.unD hE)); have hcE := hE.hc; clear hE; go_simp; rfl) ?_
          simp only [Act.put, List.setIfInBounds_toArray, List.set_cons_succ, List.set_cons_zero]
          refine plan_read _ (hi_of HO rfl) rfl (fun w' hE => by (repeat (with_reducible replace hE := Ext.unD hE)); have hcE := hE.hc; clear hE; go_simp; rfl) ?_
          simp only [Act.put, List.setIfInBounds_toArray, List.set_cons_succ, List.set_cons_zero]
          refine plan_read _ (hi_of HO rfl) rfl (fun w' hE => by (repeat (with_reducible replace hE := Ext.unD hE)); have hcE := hE.hc; clear hE; go_simp; rfl) ?_
          simp only [Act.put, List.setIfInBounds_toArray, List.set_cons_succ, List.set_cons_zero]
          refine plan_read _ (hi_of HO rfl) rfl (fun w' hE => by (repeat (with_reducible replace hE := Ext.unD hE)); have hcE := hE.hc; clear hE; go_simp; rfl) ?_
          simp only [Act.put, List.setIfInBounds_toArray, List.set_cons_succ, List.set_cons_zero]
          refine plan_read _ (hi_of HO rfl) (by rw [HO.out]; rfl) (fun w' hE => by (repeat (with_reducible replace hE := Ext.unD hE)); have hcE := hE.hc; clear hE; go_simp; rfl) ?_
          simp only [Act.put, List.setIfInBounds_toArray, List.set_cons_succ, List.set_cons_zero]
          refine plan_read _ (hi_of HO rfl) (by rw [HO.out]; rfl) (fun w' hE => by (repeat (with_reducible replace hE := Ext.unD hE)); have hcE := hE.hc; clear hE; go_simp; rfl) ?_
          simp only [Act.put, List.setIfInBounds_toArray, List.set_cons_succ, List.set_cons_zero]
          refine plan_read _ (hi_of HO rfl) (by rw [HO.out]; rfl) (fun w' hE => by (repeat (with_reducible replace hE := Ext.unD hE)); have hcE := hE.hc; clear hE; go_simp; rfl) ?_
          simp only [Act.put, List.setIfInBounds_toArray, List.set_cons_succ, List.set_cons_zero]
          refine plan_read _ (hi_of HO rfl) (by rw [HO.out]; rfl) (fun w' hE => by (repeat (with_reducible replace hE := Ext.unD hE)); have hcE := hE.hc; clear hE; go_simp; rfl) ?_
          simp only [Act.put, List.setIfInBounds_toArray, List.set_cons_succ, List.set_cons_zero]
          refine plan_read _ (hi_of HO rfl) (by rw [HO.out]; rfl) (fun w' hE => by (repeat (with_reducible replace hE := Ext.unD hE)); have hcE := hE.hc; clear hE; go_simp; rfl) ?_
          simp only [Act.put, List.setIfInBounds_toArray, List.set_cons_succ, List.set_cons_zero]
          refine plan_read _ (hi_of HO rfl) (by rw [HO.out]; rfl) (fun w' hE => by (repeat (with_reducible replace hE := Ext.unD hE)); have hcE := hE.hc; clear hE; go_simp; rfl) ?_
          simp only [Act.put, List.setIfInBounds_toArray, List.set_cons_succ, List.set_cons_zero]
          refine plan_read _ (hi_of HO rfl) (by rw [HO.out]; rfl) (fun w' hE => by (repeat (with_reducible replace hE := Ext.unD hE)); have hcE := hE.hc; clear hE; go_simp; rfl) ?_
          simp only [Act.put, List.setIfInBounds_toArray, List.set_cons_succ, List.set_cons_zero]
          refine plan_read _ (hi_of HO rfl) (by rw [HO.out]; rfl) (fun w' hE => by (repeat (with_reducible replace hE := Ext.unD hE)); have hcE := hE.hc; clear hE; go_simp; rfl) ?_
          simp only [Act.put, List.setIfInBounds_toArray, List.set_cons_succ, List.set_cons_zero]
          refine plan_read _ (hi_of HO rfl) (by rw [HO.out]; rfl) (fun w' hE => by (repeat (with_reducible replace hE := Ext.unD hE)); have hcE := hE.hc; clear hE; go_simp; rfl) ?_
          simp only [Act.put, List.setIfInBounds_toArray, List.set_cons_succ, List.set_cons_zero]
          refine plan_read _ (hi_of HO rfl) (by rw [HO.out]; rfl) (fun w' hE => by (repeat (with_reducible replace hE := Ext.unD hE)); have hcE := hE.hc; clear hE; go_simp; rfl) ?_
          simp only [Act.put, List.setIfInBounds_toArray, List.set_cons_succ, List.set_cons_zero]
          refine plan_read _ (hi_of HO rfl) (by rw [HO.out]; rfl) (fun w' hE => by (repeat (with_reducible replace hE := Ext.unD hE)); have hcE := hE.hc; clear hE; go_simp; rfl) ?_
          simp only [Act.put, List.setIfInBounds_toArray, List.set_cons_succ, List.set_cons_zero]
          refine plan_read _ (hi_of HO rfl) (by rw [HO.out]; rfl) (fun w' hE => by (repeat (with_reducible replace hE := Ext.unD hE)); have hcE := hE.hc; clear hE; go_simp; rfl) ?_
          simp only [Act.put, List.setIfInBounds_toArray, List.set_cons_succ, List.set_cons_zero]
          refine plan_read _ (hi_of HO rfl) (by rw [HO.out]; rfl) (fun w' hE => by (repeat (with_reducible replace hE := Ext.unD hE)); have hcE := hE.hc; clear hE; go_simp; rfl) ?_
          simp only [Act.put, List.setIfInBounds_toArray, List.set_cons_succ, List.set_cons_zero]
          refine plan_read _ (hi_of HO rfl) (by rw [HO.out]; rfl) (fun w' hE => by (repeat (with_reducible replace hE := Ext.unD hE)); have hcE := hE.hc; clear hE; go_simp; rfl) ?_
          simp only [Act.put, List.setIfInBounds_toArray, List.set_cons_succ, List.set_cons_zero]
          refine plan_read _ (hi_of HO rfl) (by rw [HO.out]; rfl) (fun w' hE => by (repeat (with_reducible replace hE := Ext.unD hE)); have hcE := hE.hc; clear hE; go_simp; rfl) ?_
          simp only [Act.put, List.setIfInBounds_toArray, List.set_cons_succ, List.set_cons_zero]
          refine plan_read _ (hi_of HO rfl) (by rw [HO.out]; rfl) (fun w' hE => by (repeat (with_reducible replace hE := Ext.unD hE)); have hcE := hE.hc; clear hE; go_simp; rfl) ?_
          simp only [Act.put, List.setIfInBounds_toArray, List.set_cons_succ, List.set_cons_zero]
          refine plan_read _ (hi_of HO rfl) (by rw [HO.out]; rfl) (fun w' hE => by (repeat (with_reducible replace hE := Ext.unD hE)); have hcE := hE.hc; clear hE; go_simp; rfl) ?_
          simp only [Act.put, List.setIfInBounds_toArray, List.set_cons_succ, List.set_cons_zero]
          refine plan_read _ (hi_of HO rfl) rfl (fun w' hE => by (repeat (with_reducible replace hE := Ext.unD hE)); have hcE := hE.hc; clear hE; go_simp; rfl) ?_
          simp only [Act.put, List.setIfInBounds_toArray, List.set_cons_succ, List.set_cons_zero]
          refine plan_read _ (hi_of HO rfl) rfl (fun w' hE => by (repeat (with_reducible replace hE := Ext.unD hE)); have hcE := hE.hc; clear hE; go_simp; rfl) ?_
          simp only [Act.put, List.setIfInBounds_toArray, List.set_cons_succ, List.set_cons_zero]
          refine plan_done ?fin105
          refine gen_world (P := Tryd.prog) (fun W5 => Ext wr W5) (by first | exact (Ext.refl _).drew | exact Ext.drew (Ext.drew (Ext.refl _)) | exact Ext.refl _) ?_
          intro W5 hx5
          replace x0 := cell_ext hx5 x0
          replace x1 := cell_ext hx5 x1
          replace x2 := cell_ext hx5 x2
          replace x3 := cell_ext hx5 x3
          replace x4 := cell_ext hx5 x4
          replace hxbl := cell_lt x0
          obtain ⟨oa, oc, eo⟩ := own_form HOW.out
          subst eo
          have hxa : Ext wr (W5.alloc (.cells (cP (x, zE)).toArray 155)) := by first | exact Ext.trans _ _ _ hx5 ((Ext.refl W5).alloc _) | exact Ext.trans _ _ _ hx5 (Ext.drew ((Ext.refl W5).alloc _))
          obtain ⟨v', w', hrun, ho, hg⟩ := appendP (w := W5.alloc (.cells (cP (x, zE)).toArray 155)) (b := W5.heap.size) (p := (x, zE)) (own_ext HOW.out hxa) (heap_alloc_new W5 _) (by have := HPL.out; omega) (by have := HX.out.below.size; have := hxa.below.size; omega)
          have hxw := ext_grown (Ext.trans _ _ _ HX.out hxa) hg (own_ext HOW.out hxa) (Nat.le_refl _)
          have HPN := hid_mk (show pre ++ [(x, zE)] ++ prs (a.drop (p + 1)) (b.drop (q)) = prs a b by rw [← HPRE.out, List.append_assoc]; congr 1; symm; rw [HDX.out, HDY.out, prs_lt h1] <;> rfl)
          have HOF := hid_mk (And.intro ho hxw)
          obtain ⟨va, vc, eva⟩ := own_form ho
          subst eva
          rw [show (pre ++ [(x, zE)]).length = pre.length + 1 by simp] at hrun HOF
          simp only [cP, cE, zE, List.cons_append, List.nil_append] at hrun
          clear ho hg hxw hxa
          go_wp2
          skip
          go_roundw
          case rel => exact ⟨p + 1, q, by first | rfl | exact congrArg (Value.int .i64) HWP.out, by first | rfl | exact congrArg (Value.int .i64) HWQ.out, by omega, by omega, ⟨_, HPN.out, HOF.out.1⟩, HOF.out.2⟩
          case measure => (try simp only [HWP.out]); (try simp only [HWQ.out]); simp [intOf]; omega
      · obtain rfl : q = b.length := by omega
        have HDY := hid_mk (List.drop_length (l := b))
        have hqn : ¬ ((b.length : Nat) : Int) < (b.length : Int) := by omega
        go_wp2_with fail
        refine wp_region_held_below (fun _ => true) (.quiet 0 (.quiet 1 (.quiet 2 (.quiet 3 (.quiet 4 (.quiet 5 (.quiet 6 (.quiet 7 (.quiet 8 (.quiet 9 (.quiet 10 (.quiet 11 (.quiet 12 (.quiet 13 (.quiet 14 (.quiet 15 (.quiet 16 (.quiet 17 (.quiet 18 (.quiet 19 (.quiet 20 (.quiet 21 (.quiet 22 (.quiet 23 .done)))))))))))))))))))))))) (by kernel_rfl) (by kernel_rfl) (by intro c a w d v h; cases d <;> exact h) (fun ops HO => ?_)
        refine plan_read _ (hi_of HO rfl) rfl (fun w' hE => by (repeat (with_reducible replace hE := Ext.unD hE)); have hcE := hE.hc; clear hE; go_simp; rfl) ?_
        simp only [Act.put, List.setIfInBounds_toArray, List.set_cons_succ, List.set_cons_zero]
        refine plan_read _ (hi_of HO rfl) rfl (fun w' hE => by (repeat (with_reducible replace hE := Ext.unD hE)); have hcE := hE.hc; clear hE; go_simp; rfl) ?_
        simp only [Act.put, List.setIfInBounds_toArray, List.set_cons_succ, List.set_cons_zero]
        refine plan_read _ (hi_of HO rfl) rfl (fun w' hE => by (repeat (with_reducible replace hE := Ext.unD hE)); have hcE := hE.hc; clear hE; go_simp; rfl) ?_
        simp only [Act.put, List.setIfInBounds_toArray, List.set_cons_succ, List.set_cons_zero]
        refine plan_read _ (hi_of HO rfl) rfl (fun w' hE => by (repeat (with_reducible replace hE := Ext.unD hE)); have hcE := hE.hc; clear hE; go_simp; rfl) ?_
        simp only [Act.put, List.setIfInBounds_toArray, List.set_cons_succ, List.set_cons_zero]
        refine plan_read _ (hi_of HO rfl) rfl (fun w' hE => by (repeat (with_reducible replace hE := Ext.unD hE)); have hcE := hE.hc; clear hE; go_simp; rfl) ?_
        simp only [Act.put, List.setIfInBounds_toArray, List.set_cons_succ, List.set_cons_zero]
        refine plan_skip (hi_of HO rfl) (by rw [HO.out]; rfl) ?_
        simp only [Act.put, List.setIfInBounds_toArray, List.set_cons_succ, List.set_cons_zero]
        refine plan_skip (hi_of HO rfl) (by rw [HO.out]; rfl) ?_
        simp only [Act.put, List.setIfInBounds_toArray, List.set_cons_succ, List.set_cons_zero]
        refine plan_skip (hi_of HO rfl) (by rw [HO.out]; rfl) ?_
        simp only [Act.put, List.setIfInBounds_toArray, List.set_cons_succ, List.set_cons_zero]
        refine plan_skip (hi_of HO rfl) (by rw [HO.out]; rfl) ?_
        simp only [Act.put, List.setIfInBounds_toArray, List.set_cons_succ, List.set_cons_zero]
        refine plan_skip (hi_of HO rfl) (by rw [HO.out]; rfl) ?_
        simp only [Act.put, List.setIfInBounds_toArray, List.set_cons_succ, List.set_cons_zero]
        refine plan_skip (hi_of HO rfl) (by rw [HO.out]; rfl) ?_
        simp only [Act.put, List.setIfInBounds_toArray, List.set_cons_succ, List.set_cons_zero]
        refine plan_skip (hi_of HO rfl) (by rw [HO.out]; rfl) ?_
        simp only [Act.put, List.setIfInBounds_toArray, List.set_cons_succ, List.set_cons_zero]
        refine plan_skip (hi_of HO rfl) (by rw [HO.out]; rfl) ?_
        simp only [Act.put, List.setIfInBounds_toArray, List.set_cons_succ, List.set_cons_zero]
        refine plan_skip (hi_of HO rfl) (by rw [HO.out]; rfl) ?_
        simp only [Act.put, List.setIfInBounds_toArray, List.set_cons_succ, List.set_cons_zero]
        refine plan_skip (hi_of HO rfl) (by rw [HO.out]; rfl) ?_
        simp only [Act.put, List.setIfInBounds_toArray, List.set_cons_succ, List.set_cons_zero]
        refine plan_skip (hi_of HO rfl) (by rw [HO.out]; rfl) ?_
        simp only [Act.put, List.setIfInBounds_toArray, List.set_cons_succ, List.set_cons_zero]
        refine plan_skip (hi_of HO rfl) (by rw [HO.out]; rfl) ?_
        simp only [Act.put, List.setIfInBounds_toArray, List.set_cons_succ, List.set_cons_zero]
        refine plan_skip (hi_of HO rfl) (by rw [HO.out]; rfl) ?_
        simp only [Act.put, List.setIfInBounds_toArray, List.set_cons_succ, List.set_cons_zero]
        refine plan_skip (hi_of HO rfl) (by rw [HO.out]; rfl) ?_
        simp only [Act.put, List.setIfInBounds_toArray, List.set_cons_succ, List.set_cons_zero]
        refine plan_skip (hi_of HO rfl) (by rw [HO.out]; rfl) ?_
        simp only [Act.put, List.setIfInBounds_toArray, List.set_cons_succ, List.set_cons_zero]
        refine plan_skip (hi_of HO rfl) (by rw [HO.out]; rfl) ?_
        simp only [Act.put, List.setIfInBounds_toArray, List.set_cons_succ, List.set_cons_zero]
        refine plan_skip (hi_of HO rfl) (by rw [HO.out]; rfl) ?_
        simp only [Act.put, List.setIfInBounds_toArray, List.set_cons_succ, List.set_cons_zero]
        refine plan_read _ (hi_of HO rfl) rfl (fun w' hE => by (repeat (with_reducible replace hE := Ext.unD hE)); have hcE := hE.hc; clear hE; go_simp; rfl) ?_
        simp only [Act.put, List.setIfInBounds_toArray, List.set_cons_succ, List.set_cons_zero]
        refine plan_read _ (hi_of HO rfl) rfl (fun w' hE => by (repeat (with_reducible replace hE := Ext.unD hE)); have hcE := hE.hc; clear hE; go_simp; rfl) ?_
        simp only [Act.put, List.setIfInBounds_toArray, List.set_cons_succ, List.set_cons_zero]
        refine plan_done ?fin106
        refine gen_world (P := Tryd.prog) (fun W5 => Ext wr W5) (by first | exact (Ext.refl _).drew | exact Ext.drew (Ext.drew (Ext.refl _)) | exact Ext.refl _) ?_
        intro W5 hx5
        replace x0 := cell_ext hx5 x0
        replace x1 := cell_ext hx5 x1
        replace x2 := cell_ext hx5 x2
        replace x3 := cell_ext hx5 x3
        replace x4 := cell_ext hx5 x4
        replace hxbl := cell_lt x0
        obtain ⟨oa, oc, eo⟩ := own_form HOW.out
        subst eo
        have hxa : Ext wr (W5.alloc (.cells (cP (x, zE)).toArray 155)) := by first | exact Ext.trans _ _ _ hx5 ((Ext.refl W5).alloc _) | exact Ext.trans _ _ _ hx5 (Ext.drew ((Ext.refl W5).alloc _))
        obtain ⟨v', w', hrun, ho, hg⟩ := appendP (w := W5.alloc (.cells (cP (x, zE)).toArray 155)) (b := W5.heap.size) (p := (x, zE)) (own_ext HOW.out hxa) (heap_alloc_new W5 _) (by have := HPL.out; omega) (by have := HX.out.below.size; have := hxa.below.size; omega)
        have hxw := ext_grown (Ext.trans _ _ _ HX.out hxa) hg (own_ext HOW.out hxa) (Nat.le_refl _)
        have HPN := hid_mk (show pre ++ [(x, zE)] ++ prs (a.drop (p + 1)) (b.drop (b.length)) = prs a b by rw [← HPRE.out, List.append_assoc]; congr 1; symm; rw [HDX.out, HDY.out, prs_cn] <;> rfl)
        have HOF := hid_mk (And.intro ho hxw)
        obtain ⟨va, vc, eva⟩ := own_form ho
        subst eva
        rw [show (pre ++ [(x, zE)]).length = pre.length + 1 by simp] at hrun HOF
        simp only [cP, cE, zE, List.cons_append, List.nil_append] at hrun
        clear ho hg hxw hxa
        go_wp2
        skip
        go_roundw
        case rel => exact ⟨p + 1, b.length, by first | rfl | exact congrArg (Value.int .i64) HWP.out, by first | rfl | exact congrArg (Value.int .i64) HWQ.out, by omega, by omega, ⟨_, HPN.out, HOF.out.1⟩, HOF.out.2⟩
        case measure => (try simp only [HWP.out]); (try simp only [HWQ.out]); simp [intOf]; omega
    · obtain rfl : p = a.length := by omega
      have HDX := hid_mk (List.drop_length (l := a))
      have hpn : ¬ ((a.length : Nat) : Int) < (a.length : Int) := by omega
      by_cases hql : q < b.length
      · skip
        obtain ⟨yb, yo, rfl, hyl⟩ := HCB.out (by omega)
        obtain ⟨y0, y1, y2, y3, y4⟩ := (hyl q hql).ext HX.out
        have hybl := cell_lt y0
        have HDY := hid_mk (List.drop_eq_getElem_cons hql)
        obtain ⟨y, hy⟩ : ∃ y, b[q] = y := ⟨_, rfl⟩
        rw [hy] at y0 y1 y2 y3 y4 HDY
        have hqe : ((q : Int) == (b.length : Int)) = false := by rw [beq_eq_false_iff_ne]; omega
        have hqi : (q : Int) < (b.length : Int) := by omega
        clear hyl hy
        go_wp2_with fail
        refine wp_region_held_below (fun _ => true) (.quiet 0 (.quiet 1 (.quiet 2 (.quiet 3 (.quiet 4 (.quiet 5 (.quiet 6 (.quiet 7 (.quiet 8 (.quiet 9 (.quiet 10 (.quiet 11 (.quiet 12 (.quiet 13 (.quiet 14 (.quiet 15 (.quiet 16 (.quiet 17 (.quiet 18 (.quiet 19 (.quiet 20 (.quiet 21 (.quiet 22 (.quiet 23 .done)))))))))))))))))))))))) (by kernel_rfl) (by kernel_rfl) (by intro c a w d v h; cases d <;> exact h) (fun ops HO => ?_)
        refine plan_read _ (hi_of HO rfl) rfl (fun w' hE => by (repeat (with_reducible replace hE := Ext.unD hE)); have hcE := hE.hc; clear hE; go_simp; rfl) ?_
        simp only [Act.put, List.setIfInBounds_toArray, List.set_cons_succ, List.set_cons_zero]
        refine plan_read _ (hi_of HO rfl) rfl (fun w' hE => by (repeat (with_reducible replace hE := Ext.unD hE)); have hcE := hE.hc; clear hE; go_simp; rfl) ?_
        simp only [Act.put, List.setIfInBounds_toArray, List.set_cons_succ, List.set_cons_zero]
        refine plan_read _ (hi_of HO rfl) rfl (fun w' hE => by (repeat (with_reducible replace hE := Ext.unD hE)); have hcE := hE.hc; clear hE; go_simp; rfl) ?_
        simp only [Act.put, List.setIfInBounds_toArray, List.set_cons_succ, List.set_cons_zero]
        refine plan_read _ (hi_of HO rfl) rfl (fun w' hE => by (repeat (with_reducible replace hE := Ext.unD hE)); have hcE := hE.hc; clear hE; go_simp; rfl) ?_
        simp only [Act.put, List.setIfInBounds_toArray, List.set_cons_succ, List.set_cons_zero]
        refine plan_read _ (hi_of HO rfl) rfl (fun w' hE => by (repeat (with_reducible replace hE := Ext.unD hE)); have hcE := hE.hc; clear hE; go_simp; rfl) ?_
        simp only [Act.put, List.setIfInBounds_toArray, List.set_cons_succ, List.set_cons_zero]
        refine plan_read _ (hi_of HO rfl) (by rw [HO.out]; rfl) (fun w' hE => by (repeat (with_reducible replace hE := Ext.unD hE)); have hcE := hE.hc; clear hE; go_simp; rfl) ?_
        simp only [Act.put, List.setIfInBounds_toArray, List.set_cons_succ, List.set_cons_zero]
        refine plan_read _ (hi_of HO rfl) (by rw [HO.out]; rfl) (fun w' hE => by (repeat (with_reducible replace hE := Ext.unD hE)); have hcE := hE.hc; clear hE; go_simp; rfl) ?_
        simp only [Act.put, List.setIfInBounds_toArray, List.set_cons_succ, List.set_cons_zero]
        refine plan_read _ (hi_of HO rfl) (by rw [HO.out]; rfl) (fun w' hE => by (repeat (with_reducible replace hE := Ext.unD hE)); have hcE := hE.hc; clear hE; go_simp; rfl) ?_
        simp only [Act.put, List.setIfInBounds_toArray, List.set_cons_succ, List.set_cons_zero]
        refine plan_read _ (hi_of HO rfl) (by rw [HO.out]; rfl) (fun w' hE => by (repeat (with_reducible replace hE := Ext.unD hE)); have hcE := hE.hc; clear hE; go_simp; rfl) ?_
        simp only [Act.put, List.setIfInBounds_toArray, List.set_cons_succ, List.set_cons_zero]
        refine plan_read _ (hi_of HO rfl) (by rw [HO.out]; rfl) (fun w' hE => by (repeat (with_reducible replace hE := Ext.unD hE)); have hcE := hE.hc; clear hE; go_simp; rfl) ?_
        simp only [Act.put, List.setIfInBounds_toArray, List.set_cons_succ, List.set_cons_zero]
        refine plan_skip (hi_of HO rfl) (by rw [HO.out]; rfl) ?_
        simp only [Act.put, List.setIfInBounds_toArray, List.set_cons_succ, List.set_cons_zero]
        refine plan_skip (hi_of HO rfl) (by rw [HO.out]; rfl) ?_
        simp only [Act.put, List.setIfInBounds_toArray, List.set_cons_succ, List.set_cons_zero]
        refine plan_skip (hi_of HO rfl) (by rw [HO.out]; rfl) ?_
        simp only [Act.put, List.setIfInBounds_toArray, List.set_cons_succ, List.set_cons_zero]
        refine plan_skip (hi_of HO rfl) (by rw [HO.out]; rfl) ?_
        simp only [Act.put, List.setIfInBounds_toArray, List.set_cons_succ, List.set_cons_zero]
        refine plan_skip (hi_of HO rfl) (by rw [HO.out]; rfl) ?_
        simp only [Act.put, List.setIfInBounds_toArray, List.set_cons_succ, List.set_cons_zero]
        refine plan_skip (hi_of HO rfl) (by rw [HO.out]; rfl) ?_
        simp only [Act.put, List.setIfInBounds_toArray, List.set_cons_succ, List.set_cons_zero]
        refine plan_skip (hi_of HO rfl) (by rw [HO.out]; rfl) ?_
        simp only [Act.put, List.setIfInBounds_toArray, List.set_cons_succ, List.set_cons_zero]
        refine plan_skip (hi_of HO rfl) (by rw [HO.out]; rfl) ?_
        simp only [Act.put, List.setIfInBounds_toArray, List.set_cons_succ, List.set_cons_zero]
        refine plan_skip (hi_of HO rfl) (by rw [HO.out]; rfl) ?_
        simp only [Act.put, List.setIfInBounds_toArray, List.set_cons_succ, List.set_cons_zero]
        refine plan_skip (hi_of HO rfl) (by rw [HO.out]; rfl) ?_
        simp only [Act.put, List.setIfInBounds_toArray, List.set_cons_succ, List.set_cons_zero]
        refine plan_skip (hi_of HO rfl) (by rw [HO.out]; rfl) ?_
        simp only [Act.put, List.setIfInBounds_toArray, List.set_cons_succ, List.set_cons_zero]
        refine plan_read _ (hi_of HO rfl) (by rw [HO.out]; rfl) (fun w' hE => by (repeat (with_reducible replace hE := Ext.unD hE)); have hcE := hE.hc; clear hE; go_simp; rfl) ?_
        simp only [Act.put, List.setIfInBounds_toArray, List.set_cons_succ, List.set_cons_zero]
        refine plan_read _ (hi_of HO rfl) rfl (fun w' hE => by (repeat (with_reducible replace hE := Ext.unD hE)); have hcE := hE.hc; clear hE; go_simp; rfl) ?_
        simp only [Act.put, List.setIfInBounds_toArray, List.set_cons_succ, List.set_cons_zero]
        refine plan_read _ (hi_of HO rfl) rfl (fun w' hE => by (repeat (with_reducible replace hE := Ext.unD hE)); have hcE := hE.hc; clear hE; go_simp; rfl) ?_
        simp only [Act.put, List.setIfInBounds_toArray, List.set_cons_succ, List.set_cons_zero]
        refine plan_done ?fin107
        go_wp2_with fail
        refine wp_region_held_below (fun _ => true) (.quiet 0 (.quiet 1 (.quiet 2 (.quiet 3 (.quiet 4 (.quiet 5 (.quiet 6 (.quiet 7 (.quiet 8 (.quiet 9 (.quiet 10 (.quiet 11 (.quiet 12 (.quiet 13 (.quiet 14 (.quiet 15 (.quiet 16 (.quiet 17 .done)))))))))))))))))) (by kernel_rfl) (by kernel_rfl) (by intro c a w d v h; cases d <;> exact h) (fun ops HO => ?_)
        refine plan_read _ (hi_of HO rfl) rfl (fun w' hE => by (repeat (with_reducible replace hE := Ext.unD hE)); have hcE := hE.hc; clear hE; go_simp; rfl) ?_
        simp only [Act.put, List.setIfInBounds_toArray, List.set_cons_succ, List.set_cons_zero]
        refine plan_read _ (hi_of HO rfl) rfl (fun w' hE => by (repeat (with_reducible replace hE := Ext.unD hE)); have hcE := hE.hc; clear hE; go_simp; rfl) ?_
        simp only [Act.put, List.setIfInBounds_toArray, List.set_cons_succ, List.set_cons_zero]
        refine plan_read _ (hi_of HO rfl) rfl (fun w' hE => by (repeat (with_reducible replace hE := Ext.unD hE)); have hcE := hE.hc; clear hE; go_simp; rfl) ?_
        simp only [Act.put, List.setIfInBounds_toArray, List.set_cons_succ, List.set_cons_zero]
        refine plan_read _ (hi_of HO rfl) rfl (fun w' hE => by (repeat (with_reducible replace hE := Ext.unD hE)); have hcE := hE.hc; clear hE; go_simp; rfl) ?_
        simp only [Act.put, List.setIfInBounds_toArray, List.set_cons_succ, List.set_cons_zero]
        refine plan_read _ (hi_of HO rfl) rfl (fun w' hE => by (repeat (with_reducible replace hE := Ext.unD hE)); have hcE := hE.hc; clear hE; go_simp; rfl) ?_
        simp only [Act.put, List.setIfInBounds_toArray, List.set_cons_succ, List.set_cons_zero]
        refine plan_skip (hi_of HO rfl) (by rw [HO.out]; rfl) ?_
        simp only [Act.put, List.setIfInBounds_toArray, List.set_cons_succ, List.set_cons_zero]
        refine plan_skip (hi_of HO rfl) (by rw [HO.out]; rfl) ?_
        simp only [Act.put, List.setIfInBounds_toArray, List.set_cons_succ, List.set_cons_zero]
        refine plan_skip (hi_of HO rfl) (by rw [HO.out]; rfl) ?_
        simp only [Act.put, List.setIfInBounds_toArray, List.set_cons_succ, List.set_cons_zero]
        refine plan_skip (hi_of HO rfl) (by rw [HO.out]; rfl) ?_
        simp only [Act.put, List.setIfInBounds_toArray, List.set_cons_succ, List.set_cons_zero]
        refine plan_skip (hi_of HO rfl) (by rw [HO.out]; rfl) ?_
        simp only [Act.put, List.setIfInBounds_toArray, List.set_cons_succ, List.set_cons_zero]
        refine plan_skip (hi_of HO rfl) (by rw [HO.out]; rfl) ?_
        simp only [Act.put, List.setIfInBounds_toArray, List.set_cons_succ, List.set_cons_zero]
        refine plan_skip (hi_of HO rfl) (by rw [HO.out]; rfl) ?_
        simp only [Act.put, List.setIfInBounds_toArray, List.set_cons_succ, List.set_cons_zero]
        refine plan_skip (hi_of HO rfl) (by rw [HO.out]; rfl) ?_
        simp only [Act.put, List.setIfInBounds_toArray, List.set_cons_succ, List.set_cons_zero]
        refine plan_skip (hi_of HO rfl) (by rw [HO.out]; rfl) ?_
        simp only [Act.put, List.setIfInBounds_toArray, List.set_cons_succ, List.set_cons_zero]
        refine plan_skip (hi_of HO rfl) (by rw [HO.out]; rfl) ?_
        simp only [Act.put, List.setIfInBounds_toArray, List.set_cons_succ, List.set_cons_zero]
        refine plan_skip (hi_of HO rfl) (by rw [HO.out]; rfl) ?_
        simp only [Act.put, List.setIfInBounds_toArray, List.set_cons_succ, List.set_cons_zero]
        refine plan_read _ (hi_of HO rfl) rfl (fun w' hE => by (repeat (with_reducible replace hE := Ext.unD hE)); have hcE := hE.hc; clear hE; go_simp; rfl) ?_
        simp only [Act.put, List.setIfInBounds_toArray, List.set_cons_succ, List.set_cons_zero]
        refine plan_read _ (hi_of HO rfl) rfl (fun w' hE => by (repeat (with_reducible replace hE := Ext.unD hE)); have hcE := hE.hc; clear hE; go_simp; rfl) ?_
        simp only [Act.put, List.setIfInBounds_toArray, List.set_cons_succ, List.set_cons_zero]
        refine plan_done ?fin108
        refine gen_world (P := Tryd.prog) (fun W5 => Ext wr W5) (by first | exact (Ext.refl _).drew | exact Ext.drew (Ext.drew (Ext.refl _)) | exact Ext.refl _) ?_
        intro W5 hx5
        replace y0 := cell_ext hx5 y0
        replace y1 := cell_ext hx5 y1
        replace y2 := cell_ext hx5 y2
        replace y3 := cell_ext hx5 y3
        replace y4 := cell_ext hx5 y4
        replace hybl := cell_lt y0
        obtain ⟨oa, oc, eo⟩ := own_form HOW.out
        subst eo
        have hxa : Ext wr (W5.alloc (.cells (cP (zE, y)).toArray 155)) := by first | exact Ext.trans _ _ _ hx5 ((Ext.refl W5).alloc _) | exact Ext.trans _ _ _ hx5 (Ext.drew ((Ext.refl W5).alloc _))
        obtain ⟨v', w', hrun, ho, hg⟩ := appendP (w := W5.alloc (.cells (cP (zE, y)).toArray 155)) (b := W5.heap.size) (p := (zE, y)) (own_ext HOW.out hxa) (heap_alloc_new W5 _) (by have := HPL.out; omega) (by have := HX.out.below.size; have := hxa.below.size; omega)
        have hxw := ext_grown (Ext.trans _ _ _ HX.out hxa) hg (own_ext HOW.out hxa) (Nat.le_refl _)
        have HPN := hid_mk (show pre ++ [(zE, y)] ++ prs (a.drop (a.length)) (b.drop (q + 1)) = prs a b by rw [← HPRE.out, List.append_assoc]; congr 1; symm; rw [HDX.out, HDY.out, prs_nc] <;> rfl)
        have HOF := hid_mk (And.intro ho hxw)
        obtain ⟨va, vc, eva⟩ := own_form ho
        subst eva
        rw [show (pre ++ [(zE, y)]).length = pre.length + 1 by simp] at hrun HOF
        simp only [cP, cE, zE, List.cons_append, List.nil_append] at hrun
        clear ho hg hxw hxa
        go_wp2
        skip
        go_roundw
        case rel => exact ⟨a.length, q + 1, by first | rfl | exact congrArg (Value.int .i64) HWP.out, by first | rfl | exact congrArg (Value.int .i64) HWQ.out, by omega, by omega, ⟨_, HPN.out, HOF.out.1⟩, HOF.out.2⟩
        case measure => (try simp only [HWP.out]); (try simp only [HWQ.out]); simp [intOf]; omega
      · obtain rfl : q = b.length := by omega
        have HDY := hid_mk (List.drop_length (l := b))
        have hqn : ¬ ((b.length : Nat) : Int) < (b.length : Int) := by omega
        have HPN := hid_mk (show pre = prs a b by rw [← HPRE.out, HDX.out, HDY.out, prs_nn, List.append_nil])
        go_wp2
        go_ret
        exact ⟨_, rfl, by rw [← HPN.out]; exact HOW.out, HX.out⟩
theorem r9Pairs_any (a b : List Ent) (av bv : Value) (w : World) (hs : EntSl w av a) (hs' : EntSl w bv b) (ha : mChk a = 0) (hb : mChk b = 0) (hla : a.length ≤ 100000000) (hlb : b.length ≤ 100000000) :
    Calls Tryd.prog 88 #[av, bv] w fun e w' => ∃ v, e = .returned v ∧ OwPr w' w.heap.size v (prs a b) ∧ Ext w w' :=
  r9Pairs_big a b av bv w hs hs' ha hb (by omega) (by omega)
end Go.Proofs.YtokcgnbjkbhmiaaDoor
