/- FrameRises: in a frame that may be the ranges rise, each entry is in its part's, and the keys of all entries rise. -/
import Derived.Test.YtgglbohcnlcagaaFP
import Derived.Test.YtgglbohcnlcagaaFN
import Derived.Test.YtgglbohcnlcagaaFL
import Derived.Test.YtgglbohcnlcagaaFB
import Derived.Test.YtgglbohcnlcagaaRowT
import Derived.Lib.SliceRun
namespace Go.Proofs.Ytgglbohcnlcagaa
open Go.RowKit
set_option maxHeartbeats 8000000
set_option maxRecDepth 100000
set_option linter.unusedSimpArgs false
set_option linter.unusedVariables false
theorem en_FrameRises : Enters Try.prog 3 := ⟨_, Try.func3, by kernel_rfl, rfl⟩

/-- A frame's seven cells. -/
structure FrC (w : World) (b : Nat) (f t o li nu tu : Int) (sv : Value) : Prop where
  c0 : w.cell? ⟨b, 0, none⟩ = some (.int .i64 f)
  c1 : w.cell? ⟨b, 1, none⟩ = some (.int .i64 t)
  c2 : w.cell? ⟨b, 2, none⟩ = some (.int .i64 o)
  c3 : w.cell? ⟨b, 3, none⟩ = some (.int .i64 li)
  c4 : w.cell? ⟨b, 4, none⟩ = some (.int .i64 nu)
  c5 : w.cell? ⟨b, 5, none⟩ = some (.int .i64 tu)
  c6 : w.cell? ⟨b, 6, none⟩ = some sv
theorem FrC.ext {w w' : World} {b : Nat} {f t o li nu tu : Int} {sv : Value} (h : FrC w b f t o li nu tu sv) (hx : Ext w w') : FrC w' b f t o li nu tu sv :=
  ⟨cell_ext hx h.c0, cell_ext hx h.c1, cell_ext hx h.c2, cell_ext hx h.c3, cell_ext hx h.c4, cell_ext hx h.c5, cell_ext hx h.c6⟩

def rngCells (l : List Prt) : List Value := l.flatMap fun p => [.string p.lo, .string p.hi, .bool p.op]
def keyCells (l : List ByteArray) : List Value := l.map .string
theorem rngCells_snoc (l : List Prt) (p : Prt) : rngCells (l ++ [p]) = rngCells l ++ [.string p.lo, .string p.hi, .bool p.op] := by simp [rngCells]

theorem append_rng {w : World} {B : Nat} {v : Value} {n : Nat} {xs : List Value} (hown : w.ownsRow B 33 3 v n xs) (lo hi : ByteArray) (op : Bool) (hn : n ≤ 1073741824) (hB : B ≤ w.heap.size) :
    ∃ v' w', (Builtin.append_ #[30, 30] 30 #[v, .slice (some ⟨w.heap.size, 0, none⟩) 1 1]).run Try.prog (w.alloc (.cells #[.string lo, .string hi, .bool op] 33)) = .ok v' w' ∧
      w'.ownsRow B 33 3 v' (n + 1) (xs ++ [.string lo, .string hi, .bool op]) ∧ (w.alloc (.cells #[.string lo, .string hi, .bool op] 33)).grownBy w' v.ownBlock := by
  have hb : ∃ i z, Try.prog.info? 33 = some i ∧ i.size = 3 ∧ i.bytes ≤ 128 ∧ i.zero = some z ∧ z.cells.size = 3 := ⟨_, _, rfl, rfl, by decide, rfl, rfl⟩
  obtain ⟨i, z, hinf, hs, hby, hz, hc⟩ := hb
  obtain ⟨v', w', h1, h2, h3, -⟩ := run_append_own (P := Try.prog) _ B 30 30 33 i z 3 i.bytes Try.underlying30 hinf hz hs rfl hc (by omega) v n xs (hown.alloc (.cells #[.string lo, .string hi, .bool op] 33)) ⟨w.heap.size, 0, none⟩ 1 1 [.string lo, .string hi, .bool op] rfl
    (fun j u hj => by
      match j, hj with
      | 0, hj => simp at hj; subst hj; go_simp
      | 1, hj => simp at hj; subst hj; simp [Addr.add]
      | 2, hj => simp at hj; subst hj; simp [Addr.add]) (by intro u hu; simp at hu; rcases hu with rfl | rfl | rfl <;> rfl)
    (by unfold maxLen; omega) (Nat.le_trans (Nat.mul_le_mul (show n + 1 ≤ 1073741825 by omega) hby) (by decide)) (by simp; omega)
  exact ⟨v', w', h1, h2, h3⟩
theorem append_str {w : World} {B : Nat} {v : Value} {n : Nat} {xs : List Value} (hown : w.ownsRow B 9 1 v n xs) (s : ByteArray) (hn : n ≤ 1073741824) (hB : B ≤ w.heap.size) :
    ∃ v' w', (Builtin.append_ #[31, 31] 31 #[v, .slice (some ⟨w.heap.size, 0, none⟩) 1 1]).run Try.prog (w.alloc (.cells #[.string s] 9)) = .ok v' w' ∧
      w'.ownsRow B 9 1 v' (n + 1) (xs ++ [.string s]) ∧ (w.alloc (.cells #[.string s] 9)).grownBy w' v.ownBlock := by
  have hb : ∃ i z, Try.prog.info? 9 = some i ∧ i.size = 1 ∧ i.bytes ≤ 128 ∧ i.zero = some z ∧ z.cells.size = 1 := ⟨_, _, rfl, rfl, by decide, rfl, rfl⟩
  obtain ⟨i, z, hinf, hs, hby, hz, hc⟩ := hb
  obtain ⟨v', w', h1, h2, h3, -⟩ := run_append_own (P := Try.prog) _ B 31 31 9 i z 1 i.bytes Try.underlying31 hinf hz hs rfl hc (by omega) v n xs (hown.alloc (.cells #[.string s] 9)) ⟨w.heap.size, 0, none⟩ 1 1 [.string s] rfl
    (fun j u hj => by
      match j, hj with
      | 0, hj => simp at hj; subst hj; go_simp) (by intro u hu; simp at hu; subst hu; rfl)
    (by unfold maxLen; omega) (Nat.le_trans (Nat.mul_le_mul (show n + 1 ≤ 1073741825 by omega) hby) (by decide)) (by simp; omega)
  exact ⟨v', w', h1, h2, h3⟩
attribute [-go_sem] Builtin.append_

theorem frameRises_walk (f t o li nu tu : Int) (l : List Prt) (sv : Value) (w : World) (hs : PrtSl w sv l) :
    Calls Try.prog 3 #[.agg #[.int .i64 f, .int .i64 t, .int .i64 o, .int .i64 li, .int .i64 nu, .int .i64 tu, sv]] w fun e w' => e = .returned (.bool true) ∧ Ext w w' := by
  have HS := hid_mk hs
  obtain ⟨a, c, rfl, -, -, hcells⟩ := hs
  clear hcells
  go_enter Try.func3, Try.ntmps3
  go_wp2_with fail
  refine (beyond_any f t o li nu tu l _ _ (HS.out.ext (by (repeat (first | exact Ext.refl _ | apply Ext.drew_left | apply Ext.drew | apply Ext.alloc))))).mono ?_
  rintro e w1 ⟨⟨b, rfl, -⟩, hx1⟩
  have F1 : FrC w1 w.heap.size f t o li nu tu (.slice a l.length c) := FrC.ext (w := w.alloc _) ⟨by go_simp, by go_simp, by go_simp, by go_simp, by go_simp, by go_simp, by go_simp⟩ hx1
  have HX1 := hid_mk (show Ext w w1 from Ext.trans _ _ _ (by (repeat (first | exact Ext.refl _ | apply Ext.drew_left | apply Ext.drew | apply Ext.alloc))) hx1)
  clear hx1
  have HF1 := hid_mk F1
  obtain ⟨c0, c1, c2, c3, c4, c5, c6⟩ := F1
  have hb1 := cell_lt c0
  cases b with
  | true =>
    go_wp2
    go_ret
    exact ⟨rfl, HX1.out⟩
  | false =>
    go_wp2_with fail
    refine (rfCheck_all f t o li nu tu l _ _ (HS.out.ext HX1.out)).mono ?_
    rintro e w2 ⟨rfl, hx2⟩
    have HF2 := hid_mk (HF1.out.ext hx2)
    have HX2 := hid_mk (Ext.trans _ _ _ HX1.out hx2)
    clear hx2 HF1 c0 c1 c2 c3 c4 c5 c6 hb1
    by_cases hz : frmChk ⟨f, t, o, li, nu, tu, l⟩ = 0
    · have HL := hid_mk (frame_rises hz)
      rw [hz]
      clear hz
      have HS2 := hid_mk (HS.out.ext HX2.out)
      have hb2 := cell_lt HF2.out.c0
      go_wp2
      go_loopw [3, 4, 5] (fun lv kv i wr => ∃ k : Nat, k ≤ l.length ∧ i = .int .i64 k ∧ wr.ownsRow w2.heap.size 33 3 lv k (rngCells (l.take k)) ∧ wr.ownsRow w2.heap.size 9 1 kv (entsSum (l.take k)) (keyCells (keysOf (l.take k))) ∧ Ext w2 wr) (fun _ _ i _ => l.length - (intOf i).toNat)
      case atStart =>
        refine ⟨0, Nat.zero_le _, rfl, World.ownsRow.alloc (World.ownsRow_made w2 #[] 0 (Nat.le_refl _) (by decide) rfl) _, ?_, by (repeat (first | exact Ext.refl _ | apply Ext.drew_left | apply Ext.drew | apply Ext.alloc))⟩
        have h := World.ownsRow_made (base := w2.heap.size) (e := 9) (size := 1) (w2.alloc (.cells #[] 33)) #[] 0 (by simp) (by decide) rfl
        rw [World.size_alloc] at h
        exact h
      case round =>
        obtain ⟨k, hk, rfl, hol, hok, hx⟩ := hrel
        obtain ⟨wo, hwo⟩ : ∃ wo, wo = wr := ⟨_, rfl⟩
        subst hwo
        obtain ⟨la, lc, rfl⟩ := own_form hol
        obtain ⟨ka, kc, rfl⟩ := own_form hok
        have HOL := hid_mk hol
        have HOK := hid_mk hok
        have HX := hid_mk hx
        have HF := hid_mk (HF2.out.ext hx)
        have c6 := HF.out.c6
        have hb := cell_lt c6
        clear hol hok hx
        by_cases hlt : k < l.length
        · have hk768 : k ≤ 1073741824 := by have := HL.out.1; omega
          obtain ⟨a9, c9, e9, -, -, hcl0⟩ := HS2.out
          cases e9
          obtain ⟨pb, po, rfl, hcl⟩ := hcl0 (by omega)
          obtain ⟨pv, hA⟩ := hcl k hlt
          clear hcl hcl0
          have HTK := hid_mk (List.take_succ_eq_append_getElem hlt)
          have HP := hid_mk (show (rngEmpty l[k].lo l[k].hi l[k].op = false) ∧ ∀ e ∈ l[k].ents, rngHolds l[k].lo l[k].hi l[k].op e.key = true from ⟨HL.out.2.2.1 _ (List.getElem_mem hlt), HL.out.2.2.2.2.1 _ (List.getElem_mem hlt)⟩)
          have HSUM := hid_mk (show entsSum (l.take (k + 1)) = entsSum (l.take k) + l[k].ents.length ∧ entsSum (l.take (k + 1)) ≤ 256 from ⟨entsSum_take_succ l k hlt, by have := HL.out.2.1; have := entsSum_take_le l (k + 1); omega⟩)
          generalize l[k] = p at *
          have HA := hid_mk hA
          replace hA := hA.ext HX.out
          obtain ⟨kind, lo, hi, op, cnt, s0, s1, ents⟩ := p
          obtain ⟨a0, a1, a2, a3, a4, a5, a6, a7, hE⟩ := hA
          obtain ⟨ea, ec, rfl, -, -, -⟩ := hE
          dsimp only at a0 a1 a2 a3 a4 a5 a6 a7 HA HP HSUM HTK
          have hpl := cell_lt a0
          have hk1 : (k : Int) < (l.length : Int) := by omega
          obtain ⟨lv', w3, hrun, hol3, hg3⟩ := append_rng HOL.out lo hi op hk768 HX.out.below.size
          obtain ⟨la', lc', rfl⟩ := own_form hol3
          have HOL3 := hid_mk hol3
          have HOK3 := hid_mk ((HOK.out.alloc (.cells #[.string lo, .string hi, .bool op] 33)).kept hg3 (own_apart HOK.out HOL.out (by decide)))
          have HX3 := hid_mk (ext_grown (HX.out.alloc (.cells #[.string lo, .string hi, .bool op] 33)) hg3 (HOL.out.alloc _) (Nat.le_refl _))
          clear hol3 hg3
          go_wp2
          clear hrun a0 a1 a2 a3 a4 a5 a6 a7 c6 hb hpl
          go_loopw [4, 6] (fun kv i wi => ∃ j : Nat, j ≤ ents.length ∧ i = .int .i64 j ∧ wi.ownsRow w2.heap.size 33 3 (.slice la' (k + 1) lc') (k + 1) (rngCells (l.take k) ++ [.string lo, .string hi, .bool op]) ∧ wi.ownsRow w2.heap.size 9 1 kv (entsSum (l.take k) + j) (keyCells (keysOf (l.take k) ++ (ents.take j).map (·.key))) ∧ Ext w2 wi) (fun _ i _ => ents.length - (intOf i).toNat)
          case atStart => exact ⟨0, Nat.zero_le _, rfl, HOL3.out, by simpa using HOK3.out, HX3.out⟩
          case round =>
            obtain ⟨j, hj, rfl, hol, hok, hx⟩ := hrel
            obtain ⟨ka', kc', rfl⟩ := own_form hok
            have HOLI := hid_mk hol
            have HOKI := hid_mk hok
            have HXI := hid_mk hx
            have c6 := (HF2.out.ext hx).c6
            have hb := cell_lt c6
            have hA := HA.out.ext hx
            clear hol hok hx
            obtain ⟨a0, a1, a2, a3, a4, a5, a6, a7, hE⟩ := hA
            dsimp only at a0 a1 a2 a3 a4 a5 a6 a7 hE
            have hpl := cell_lt a0
            by_cases hjt : j < ents.length
            · obtain ⟨ea', ec', e9, -, -, hecl⟩ := hE
              cases e9
              obtain ⟨d, u, rfl, hd⟩ := hecl (by omega)
              have hD := hd j hjt
              clear hd hecl
              have HTJ := hid_mk (List.take_succ_eq_append_getElem hjt)
              have HHO := hid_mk (HP.out.2 ents[j] (List.getElem_mem hjt))
              have hsm : entsSum (l.take k) + j ≤ 1073741824 := by have := HSUM.out; omega
              generalize ents[j] = x at *
              obtain ⟨xk, xc, xn, xv, xd⟩ := x
              obtain ⟨d0, d1, d2, d3, d4⟩ := hD
              dsimp only at d0 d1 d2 d3 d4 HHO
              have hdl := cell_lt d0
              have hjl : (j : Int) < (ents.length : Int) := by omega
              go_wp2_with fail
              refine (sHolds_any lo hi op xk _).mono ?_
              rintro e w4 ⟨rfl, hx4⟩
              rw [HHO.out]
              have HXX := hid_mk (Ext.trans _ _ _ HXI.out hx4)
              have HOL4 := hid_mk (own_ext HOLI.out hx4)
              have HOK4 := hid_mk (own_ext HOKI.out hx4)
              obtain ⟨kv', w5, hrun5, hok5, hg5⟩ := append_str HOK4.out xk hsm HXX.out.below.size
              have HOK5 := hid_mk hok5
              have HOL5 := hid_mk ((HOL4.out.alloc (.cells #[.string xk] 9)).kept hg5 (own_apart HOL4.out HOK4.out (by decide)))
              have HX5 := hid_mk (ext_grown (HXX.out.alloc (.cells #[.string xk] 9)) hg5 (HOK4.out.alloc _) (Nat.le_refl _))
              clear hx4 hok5 hg5 c6 a0 a1 a2 a3 a4 a5 a6 a7 d0 d1 d2 d3 d4
              obtain ⟨ka5, kc5, rfl⟩ := own_form HOK5.out
              go_wp2
              go_roundw
              case rel =>
                refine ⟨j + 1, by omega, by go_num, HOL5.out, ?_, HX5.out⟩
                have h := HOK5.out
                rw [HTJ.out]
                simpa [keyCells, Nat.add_assoc] using h
              case measure => simp [intOf]; omega
            · have e : j = ents.length := by omega
              subst e
              obtain ⟨ea', ec', e9, -, -, -⟩ := hE
              cases e9
              go_wp2
              go_roundw
              case rel =>
                refine ⟨k + 1, by omega, by go_num, ?_, ?_, HXI.out⟩
                · rw [HTK.out, rngCells_snoc]; exact HOLI.out
                · have h := HOKI.out
                  rw [HSUM.out.1, HTK.out]
                  simpa [keysOf, List.flatMap_append] using h
              case measure => simp [intOf]; omega
        · have e : k = l.length := by omega
          subst e
          rw [List.take_length] at HOK HOL
          have HKL := hid_mk (keysOf_length l)
          have hsm : entsSum l ≤ 256 := HL.out.2.1
          have hlm : l.length ≤ 768 := HL.out.1
          rw [List.take_length]
          go_wp2
          go_loopw [8] (fun i wi => ∃ m : Nat, m ≤ entsSum l ∧ i = .int .i64 ((m + 1 : Nat) : Int) ∧ Ext wo wi) (fun i _ => entsSum l + 1 - (intOf i).toNat)
          case atStart => exact ⟨0, Nat.zero_le _, rfl, Ext.refl _⟩
          case round =>
            obtain ⟨m, hm, rfl, hx⟩ := hrel
            have HXI := hid_mk hx
            clear hx
            by_cases hmt : m + 1 < entsSum l
            · obtain ⟨g, cg, e9, hcell⟩ := own_cell HOK.out (by omega)
              cases e9
              have hm1 : m + 1 < (keysOf l).length := by rw [HKL.out]; exact hmt
              have hm0 : m < (keysOf l).length := by omega
              have k1 := cell_ext HXI.out (hcell (m + 1) (.string (keysOf l)[m + 1]) (by unfold keyCells; rw [List.getElem?_map, List.getElem?_eq_getElem hm1]; rfl))
              have k0 := cell_ext HXI.out (hcell m (.string (keysOf l)[m]) (by unfold keyCells; rw [List.getElem?_map, List.getElem?_eq_getElem hm0]; rfl))
              have hlt : Op.bytesLess (keysOf l)[m].toList (keysOf l)[m + 1].toList = true := List.pairwise_iff_getElem.1 HL.out.2.2.2.2.2 m (m + 1) hm0 hm1 (by omega)
              clear hcell
              generalize (keysOf l)[m + 1] = x1 at *
              generalize (keysOf l)[m] = x0 at *
              have hgl := cell_lt k0
              have hla : Op.bytesLess x1.toList x0.toList = false := bl_asymm hlt
              have hlb : (x1.toList == x0.toList) = false := by have := bl_ne hlt; simp [Ne.symm this]
              have hlc : ¬ x1.toList = x0.toList := fun e => bl_ne hlt e.symm
              have hq1 : ((m : Int) + 1) < (entsSum l : Int) := by omega
              have hq2 : (m : Int) < (entsSum l : Int) := by omega
              have hq3 : (0 : Int) ≤ (m : Int) + 1 := by omega
              have hwk : IntKind.i64.wrap (m : Int) = (m : Int) := wrapN m (by omega)
              go_wp2_with fail
              refine wp_region_held_below (fun _ => true) (.quiet 0 (.quiet 1 (.quiet 2 (.quiet 3 (.quiet 4 (.quiet 5 (.quiet 6 (.quiet 7 (.quiet 8 (.quiet 9 .done)))))))))) (by kernel_rfl) (by kernel_rfl) (by intro c a w d v h; cases d <;> exact h) (fun ops HO => ?_)
              refine plan_read _ (hi_of HO rfl) rfl (fun w' hE => by (first | replace hE := Ext.unD hE | skip); have hcE := hE.hc; clear hE; go_simp; rfl) ?_
              simp only [Act.put, List.setIfInBounds_toArray, List.set_cons_succ, List.set_cons_zero]
              refine plan_read _ (hi_of HO rfl) rfl (fun w' hE => by (first | replace hE := Ext.unD hE | skip); have hcE := hE.hc; clear hE; go_simp; rfl) ?_
              simp only [Act.put, List.setIfInBounds_toArray, List.set_cons_succ, List.set_cons_zero]
              refine plan_read _ (hi_of HO rfl) rfl (fun w' hE => by (first | replace hE := Ext.unD hE | skip); have hcE := hE.hc; clear hE; go_simp; rfl) ?_
              simp only [Act.put, List.setIfInBounds_toArray, List.set_cons_succ, List.set_cons_zero]
              refine plan_read _ (hi_of HO rfl) rfl (fun w' hE => by (first | replace hE := Ext.unD hE | skip); have hcE := hE.hc; clear hE; go_simp; rfl) ?_
              simp only [Act.put, List.setIfInBounds_toArray, List.set_cons_succ, List.set_cons_zero]
              refine plan_read _ (hi_of HO rfl) rfl (fun w' hE => by (first | replace hE := Ext.unD hE | skip); have hcE := hE.hc; clear hE; go_simp; rfl) ?_
              simp only [Act.put, List.setIfInBounds_toArray, List.set_cons_succ, List.set_cons_zero]
              refine plan_read _ (hi_of HO rfl) rfl (fun w' hE => by (first | replace hE := Ext.unD hE | skip); have hcE := hE.hc; clear hE; go_simp; rfl) ?_
              simp only [Act.put, List.setIfInBounds_toArray, List.set_cons_succ, List.set_cons_zero]
              refine plan_read _ (hi_of HO rfl) rfl (fun w' hE => by (first | replace hE := Ext.unD hE | skip); have hcE := hE.hc; clear hE; go_simp; rfl) ?_
              simp only [Act.put, List.setIfInBounds_toArray, List.set_cons_succ, List.set_cons_zero]
              refine plan_read _ (hi_of HO rfl) rfl (fun w' hE => by (first | replace hE := Ext.unD hE | skip); have hcE := hE.hc; clear hE; go_simp; rfl) ?_
              simp only [Act.put, List.setIfInBounds_toArray, List.set_cons_succ, List.set_cons_zero]
              refine plan_read _ (hi_of HO rfl) rfl (fun w' hE => by (first | replace hE := Ext.unD hE | skip); have hcE := hE.hc; clear hE; go_simp; rfl) ?_
              simp only [Act.put, List.setIfInBounds_toArray, List.set_cons_succ, List.set_cons_zero]
              refine plan_read _ (hi_of HO rfl) rfl (fun w' hE => by (first | replace hE := Ext.unD hE | skip); have hcE := hE.hc; clear hE; go_simp; rfl) ?_
              simp only [Act.put, List.setIfInBounds_toArray, List.set_cons_succ, List.set_cons_zero]
              refine plan_done ?fin101
              go_wp2
              go_roundw
              case rel => exact ⟨m + 1, by omega, by go_num, Ext.trans _ _ _ HXI.out (by (repeat (first | exact Ext.refl _ | apply Ext.drew_left | apply Ext.drew | apply Ext.alloc)))⟩
              case measure => simp [intOf]; omega
            · have hq1 : ¬ ((m : Int) + 1) < (entsSum l : Int) := by omega
              have HRS := hid_mk (show RngSl wr (.slice la l.length lc) (l.map rngOf) from by
                refine ⟨la, lc, by simp, by simp; omega, fun hp => ?_⟩
                obtain ⟨g, cg, e9, hcell⟩ := own_cell (own_ext HOL.out HXI.out) (by simpa using hp)
                cases e9
                refine ⟨g, 0, rfl, fun i hi => ?_⟩
                have hi' : i < l.length := by simpa using hi
                have hg : ∀ j, j < 3 → (rngCells l)[i * 3 + j]? = [Value.string l[i].lo, .string l[i].hi, .bool l[i].op][j]? := fun j hj => flat_get (fun p : Prt => [Value.string p.lo, .string p.hi, .bool p.op]) 3 (by omega) (fun _ => rfl) l i hi' j hj
                rw [Nat.zero_add]
                simp only [List.getElem_map, rngOf]
                exact ⟨hcell _ _ (hg 0 (by omega)), hcell _ _ (hg 1 (by omega)), hcell _ _ (hg 2 (by omega))⟩)
              go_wp2_with fail
              refine (sRising_any (l.map rngOf) _ _ (by have h := HRS.out; simpa using h) ?_ HL.out.2.2.2.1).mono ?_
              · intro r hr
                obtain ⟨p, hp, rfl⟩ := List.mem_map.1 hr
                exact HL.out.2.2.1 p hp
              rintro e w6 ⟨rfl, hx6⟩
              have HX6 := hid_mk (Ext.trans _ _ _ (Ext.trans _ _ _ HX.out HXI.out) hx6)
              have c6 := HF2.out.ext HX6.out
              have HF6 := hid_mk c6
              obtain ⟨f0, f1, f2, f3, f4, f5, f6⟩ := c6
              have hb6 := cell_lt f0
              have hl1 : (l.length : Int) ≤ 768 := by omega
              have hl2 : (entsSum l : Int) ≤ 256 := by omega
              clear hx6
              go_wp2_with fail
              refine (Entries_any f t o li nu tu l _ _ (HS2.out.ext HX6.out)).mono ?_
              rintro e w7 ⟨rfl, hx7⟩
              rw [entsNum_small HL.out.2.1]
              have HX7 := hid_mk (Ext.trans _ _ _ (Ext.trans _ _ _ HX2.out HX6.out) hx7)
              clear hx7
              go_wp2
              go_ret
              exact ⟨rfl, HX7.out⟩
    · have hzb : (frmChk ⟨f, t, o, li, nu, tu, l⟩ != 0) = true := by simpa using hz
      clear hz
      generalize frmChk ⟨f, t, o, li, nu, tu, l⟩ = r at *
      go_wp2
      go_ret
      exact ⟨rfl, HX2.out⟩
end Go.Proofs.Ytgglbohcnlcagaa
