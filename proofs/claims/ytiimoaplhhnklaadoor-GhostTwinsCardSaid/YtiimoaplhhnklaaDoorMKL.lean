/- Cuts: a range is cut at its keys into parts. Cuts: the document's Ranges; ghost's split. -/
import Derived.Test.YtiimoaplhhnklaaDoorMKI
namespace Go.Proofs.YtiimoaplhhnklaaDoor
open Go.RowKit Go.Lib
set_option maxHeartbeats 4000000
set_option maxRecDepth 100000
set_option linter.unusedSimpArgs false
set_option linter.unusedVariables false
attribute [-go_sem] Builtin.append_

/-- Keys of a range, and a number of parts, that may be. -/
structure SplOk (r : Rg) (ks : List ByteArray) (p : Nat) : Prop where
  c : rngCheck r.lo r.hi r.op = 0
  k : KeysOk ks
  h : ∀ k ∈ ks, rngHolds r.lo r.hi r.op k = true
  p1 : 1 ≤ p
  p2 : p ≤ ks.length
def rangesL (r : Rg) (ks : List ByteArray) (p : Nat) : List Rg := splitL r (bordersL ks p)
theorem rise_lt {ks : List ByteArray} (h : KeysOk ks) : ∀ (d i : Nat) (hi : i + d + 1 < ks.length), Op.bytesLess (ks[i]'(by omega)).toList (ks[i + d + 1]).toList = true
  | 0, i, hi => h.r i hi
  | d + 1, i, hi => bl_trans (rise_lt h d i (by omega)) (h.r (i + d + 1) hi)
theorem rise_lt' {ks : List ByteArray} (h : KeysOk ks) {i j : Nat} (hij : i < j) (hj : j < ks.length) : Op.bytesLess (ks[i]'(by omega)).toList (ks[j]).toList = true := by
  have := rise_lt h (j - i - 1) i (by omega)
  have e : i + (j - i - 1) + 1 = j := by omega
  simpa only [e] using this
theorem holds_parts {r : Rg} {k : ByteArray} (h : rngHolds r.lo r.hi r.op k = true) : Op.bytesLess k.toList r.lo.toList = false ∧ (r.op = true ∨ Op.bytesLess k.toList r.hi.toList = true) := by
  unfold rngHolds at h
  simp only [Bool.and_eq_true, Bool.or_eq_true, Bool.not_eq_true'] at h
  exact ⟨h.2.2.1, h.2.2.2⟩
theorem bord_get {ks : List ByteArray} {p j : Nat} (hp : p ≤ ks.length) (hj : j + 1 < p) : (bordersL ks p)[j]? = some (ks[(j + 1) * ks.length / p]'(start_lt hj (by omega))) := by
  unfold bordersL bordTo
  rw [List.getElem?_map, List.getElem?_range (by omega), Option.map_some, List.getD_eq_getElem?_getD, List.getElem?_eq_getElem (start_lt hj (by omega))]
  rfl
theorem bord_len (ks : List ByteArray) (p : Nat) : (bordersL ks p).length = p - 1 := bordTo_len _ _ _
theorem bordOk {r : Rg} {ks : List ByteArray} {p : Nat} (h : SplOk r ks p) : BordOk r (bordersL ks p) := by
  have h1 := h.p1
  have h2 := h.p2
  have hn := h.k.n
  have hm : ∀ b ∈ bordersL ks p, b ∈ ks := fun b hb => by
    obtain ⟨j, hj, e⟩ := List.getElem_of_mem hb
    rw [bord_len] at hj
    have := bord_get (j := j) h2 (by omega)
    rw [List.getElem?_eq_getElem (by rw [bord_len]; exact hj), e] at this
    rw [Option.some.inj this]
    exact List.getElem_mem _
  refine ⟨h.c, fun b hb => h.k.z b (hm b hb), fun j hj => ?_, fun b hb => (holds_parts (h.h b (hm b hb))).2, by rw [bord_len]; omega⟩
  rw [bord_len] at hj
  have e := bord_get (j := j) h2 (by omega)
  rw [List.getElem?_eq_getElem (by rw [bord_len]; exact hj)] at e
  rw [Option.some.inj e]
  cases j with
  | zero =>
    have hs : 0 < 1 * ks.length / p := Nat.div_pos (by omega) (by omega)
    have h3 := rise_lt' h.k hs (start_lt (by omega) (by omega))
    exact bl_le_lt (holds_parts (h.h ks[0] (List.getElem_mem _))).1 h3
  | succ j =>
    have e2 := bord_get (ks := ks) (j := j) h2 (by omega)
    show Op.bytesLess ((bordersL ks p).getD j ⟨#[]⟩).toList _ = true
    rw [List.getD_eq_getElem?_getD, e2]
    refine rise_lt' h.k ?_ _
    have h4 : (j + 1) * ks.length + p ≤ (j + 1 + 1) * ks.length := by rw [Nat.add_mul (j + 1) 1, Nat.one_mul]; omega
    have h5 := Nat.div_le_div_right (c := p) h4
    rw [Nat.add_div_right _ (by omega)] at h5
    omega
/-- What Ranges has laid. -/
structure RnAt (w W : World) (r : Rg) : Prop where
  x : Ext w W
  c0 : W.cell? ⟨w.heap.size, 0, none⟩ = some (.string r.lo)
  c1 : W.cell? ⟨w.heap.size, 1, none⟩ = some (.string r.hi)
  c2 : W.cell? ⟨w.heap.size, 2, none⟩ = some (.bool r.op)
theorem RnAt.ext {w W W' : World} {r : Rg} (h : RnAt w W r) (hx : Ext W W') : RnAt w W' r := ⟨Ext.trans _ _ _ h.x hx, cell_ext hx h.c0, cell_ext hx h.c1, cell_ext hx h.c2⟩
theorem cRanges_any {w : World} (r : Rg) (ks : List ByteArray) (v : Value) (p : Nat) (hs : GSl cK 1 w v ks) (ho : SplOk r ks p) :
    Calls Tryd.prog 52 #[rgV r, v, .int .i64 (p : Int)] w fun e w' => ∃ v, e = .returned (.tuple #[v, .int .i64 0]) ∧ OwG 26 3 cR w' w.heap.size v (rangesL r ks p) ∧ Ext w w' := by
  have HO := hid_mk ho
  have HS := hid_mk hs
  have hn := ho.k.n
  have HCK := hid_mk ho.c
  have hp1 := ho.p1
  have hp2 := ho.p2
  obtain ⟨lo, hi, op⟩ := r
  obtain ⟨a, c, rfl, hlc, hcells⟩ := hs
  have HC := hid_mk (fun (wr : World) hp hx => gsl_cK (wr := wr) hcells hp hx)
  clear hcells ho
  dsimp only [rgV] at HCK ⊢
  go_enter Tryd.func52, Tryd.ntmps52
  go_wp2_with fail
  refine gen_callsK (fun W => RnAt w W ⟨lo, hi, op⟩) ⟨by (repeat (first | exact Ext.refl _ | apply Ext.drew_left | apply Ext.drew | apply Ext.alloc)), by go_simp, by go_simp, by go_simp⟩ ?_
  intro W0 h0
  refine (sCheck_any lo hi op W0).mono ?_
  rintro e W1 ⟨rfl, hx⟩
  rw [HCK.out]
  have HA1 := hid_mk (h0.ext hx)
  clear h0 hx
  go_wp2_with fail
  refine (cCheck_any ks _ (HS.out.ext (fun _ => rfl) HA1.out.x) HO.out.k).mono ?_
  rintro e W2 ⟨rfl, hx⟩
  have HA2 := hid_mk (HA1.out.ext hx)
  clear hx HA1
  go_wp2_with fail
  go_loopw [26] (fun i wr => ∃ k : Nat, k ≤ ks.length ∧ i = .int .i64 (k : Int) ∧ RnAt w wr ⟨lo, hi, op⟩) (fun i _ => ks.length - (intOf i).toNat)
  case atStart => exact ⟨0, Nat.zero_le _, rfl, HA2.out⟩
  case round =>
    clear HA2
    obtain ⟨k, hk, rfl, ha⟩ := hrel
    have HA := hid_mk ha
    clear ha
    by_cases hlt : k < ks.length
    · obtain ⟨b, o, rfl, hcl⟩ := HC.out wr (by omega) HA.out.x
      have a0 := hcl k hlt
      have hbl := cell_lt a0
      have HH := hid_mk (HO.out.h ks[k] (List.getElem_mem hlt))
      obtain ⟨y, hy⟩ : ∃ y, ks[k] = y := ⟨_, rfl⟩
      rw [hy] at a0 HH
      have hk1 : (k : Int) < (ks.length : Int) := by omega
      have hk0 : (0 : Int) ≤ (k : Int) := by omega
      have HW := hid_mk (show wrap64 ((k : Int) + 1) = (k : Int) + 1 from w64in (by omega))
      clear hcl hy
      have c0 := HA.out.c0
      have c1 := HA.out.c1
      have c2 := HA.out.c2
      have cl := cell_lt c0
      go_wp2_with fail
      refine (sHolds_any lo hi op y wr).mono ?_
      rintro e W5 ⟨rfl, hx⟩
      rw [show rngHolds lo hi op y = true from HH.out]
      replace HA := hid_mk (HA.out.ext hx)
      clear hx
      go_wp2
      go_roundw
      case rel => exact ⟨k + 1, hlt, (by first | exact congrArg (Value.int .i64) HW.out | rfl), HA.out⟩
      case measure => (try simp only [HW.out]); simp [intOf]; omega
    · obtain rfl : k = ks.length := by omega
      have hmm : ¬ ((ks.length : Nat) : Int) < (ks.length : Int) := by omega
      go_wp2_with fail
      refine (cBorders_any ks _ p (HS.out.ext (fun _ => rfl) HA.out.x) HO.out.k hp1 hp2).mono ?_
      rintro e W6 ⟨bv, rfl, hbo, hx⟩
      have HA6 := hid_mk (HA.out.ext hx)
      have HBS := hid_mk hbo.gsl
      obtain ⟨ba, bc, rfl⟩ := own_form hbo
      clear hx hbo
      have c0 := HA6.out.c0
      have c1 := HA6.out.c1
      have c2 := HA6.out.c2
      have cl := cell_lt c0
      go_wp2_with fail
      refine (sSplit_any ⟨lo, hi, op⟩ _ _ HBS.out (bordOk HO.out)).mono ?_
      rintro e W7 ⟨rv, rfl, hro, hx⟩
      have HA7 := hid_mk (HA6.out.ext hx)
      have HR := hid_mk (hro.lower (HA6.out.x.below.size))
      obtain ⟨ra, rc, rfl⟩ := own_form hro
      clear hx hro
      go_wp2
      refine bodyPost_ret (v := .tuple #[_, .int .i64 0]) (by unfold results; rw [Tryd.results52]; go_simp; first | done | rfl) rfl ⟨_, rfl, HR.out, HA7.out.x⟩
end Go.Proofs.YtiimoaplhhnklaaDoor
namespace Go.Proofs.YtiimoaplhhnklaaDoor
open Go.RowKit Go.Lib
set_option maxHeartbeats 4000000
set_option maxRecDepth 100000
set_option linter.unusedSimpArgs false
set_option linter.unusedVariables false
attribute [-go_sem] Builtin.append_
theorem en_r7Ranges : Enters Tryd.prog 43 := ⟨_, Tryd.func43, by kernel_rfl, rfl⟩
theorem r7Ranges_any {w : World} (r : Rg) (ks : List ByteArray) (v : Value) (p : Nat) (hs : GSl cK 1 w v ks) (ho : SplOk r ks p) :
    Calls Tryd.prog 43 #[rgV r, v, .int .i64 (p : Int)] w fun e w' => ∃ v, e = .returned (.tuple #[v, .int .i64 0]) ∧ OwG 26 3 cR w' w.heap.size v (rangesL r ks p) ∧ Ext w w' := by
  have HO := hid_mk ho
  have HS := hid_mk hs
  have hn := ho.k.n
  have HCK := hid_mk ho.c
  have hp1 := ho.p1
  have hp2 := ho.p2
  obtain ⟨lo, hi, op⟩ := r
  obtain ⟨a, c, rfl, hlc, hcells⟩ := hs
  have HC := hid_mk (fun (wr : World) hp hx => gsl_cK (wr := wr) hcells hp hx)
  clear hcells ho
  dsimp only [rgV] at HCK ⊢
  go_enter Tryd.func43, Tryd.ntmps43
  go_wp2_with fail
  refine gen_callsK (fun W => RnAt w W ⟨lo, hi, op⟩) ⟨by (repeat (first | exact Ext.refl _ | apply Ext.drew_left | apply Ext.drew | apply Ext.alloc)), by go_simp, by go_simp, by go_simp⟩ ?_
  intro W0 h0
  refine (r2Check_any lo hi op W0).mono ?_
  rintro e W1 ⟨rfl, hx⟩
  rw [HCK.out]
  have HA1 := hid_mk (h0.ext hx)
  clear h0 hx
  go_wp2_with fail
  refine (r7Rise_any ks _ (HS.out.ext (fun _ => rfl) HA1.out.x) HO.out.k).mono ?_
  rintro e W2 ⟨rfl, hx⟩
  have HA2 := hid_mk (HA1.out.ext hx)
  clear hx HA1
  go_wp2_with fail
  go_loopw [9] (fun i wr => ∃ k : Nat, k ≤ ks.length ∧ i = .int .i64 (k : Int) ∧ RnAt w wr ⟨lo, hi, op⟩) (fun i _ => ks.length - (intOf i).toNat)
  case atStart => exact ⟨0, Nat.zero_le _, rfl, HA2.out⟩
  case round =>
    clear HA2
    obtain ⟨k, hk, rfl, ha⟩ := hrel
    have HA := hid_mk ha
    clear ha
    by_cases hlt : k < ks.length
    · obtain ⟨b, o, rfl, hcl⟩ := HC.out wr (by omega) HA.out.x
      have a0 := hcl k hlt
      have hbl := cell_lt a0
      have HH := hid_mk (HO.out.h ks[k] (List.getElem_mem hlt))
      obtain ⟨y, hy⟩ : ∃ y, ks[k] = y := ⟨_, rfl⟩
      rw [hy] at a0 HH
      have hk1 : (k : Int) < (ks.length : Int) := by omega
      have hk0 : (0 : Int) ≤ (k : Int) := by omega
      have HW := hid_mk (show wrap64 ((k : Int) + 1) = (k : Int) + 1 from w64in (by omega))
      clear hcl hy
      have c0 := HA.out.c0
      have c1 := HA.out.c1
      have c2 := HA.out.c2
      have cl := cell_lt c0
      go_wp2_with fail
      have hx5 := Ext.refl wr
      have hc5 := hx5.hc; have hl5 := hx5.hl; have he5 := hx5.hle; have hn5 := hx5.hne; replace hx5 := hid_mk hx5
      refine wp_region_held_below (fun _ => true) (.quiet 0 (.quiet 1 (.quiet 2 (.quiet 3 (.quiet 4 (.alt 5 (.quiet 6 .done) .stop)))))) (by kernel_rfl) (by kernel_rfl) (by intro c a w d v h; cases d <;> exact h) (fun ops HO => ?_)
      refine plan_read _ (hi_of HO rfl) rfl (fun w' hE => by have hcE := (Ext.trans _ _ _ (by (repeat (first | exact hx5.out | apply Ext.drew | apply Ext.alloc))) hE).hc; (repeat (with_reducible replace hE := Ext.unD hE)); have hcF := hE.hc; clear hE; go_simp; rfl) ?_
      simp only [Act.put, List.setIfInBounds_toArray, List.set_cons_succ, List.set_cons_zero]
      refine plan_read _ (hi_of HO rfl) rfl (fun w' hE => by have hcE := (Ext.trans _ _ _ (by (repeat (first | exact hx5.out | apply Ext.drew | apply Ext.alloc))) hE).hc; (repeat (with_reducible replace hE := Ext.unD hE)); have hcF := hE.hc; clear hE; go_simp; rfl) ?_
      simp only [Act.put, List.setIfInBounds_toArray, List.set_cons_succ, List.set_cons_zero]
      refine plan_read _ (hi_of HO rfl) rfl (fun w' hE => by have hcE := (Ext.trans _ _ _ (by (repeat (first | exact hx5.out | apply Ext.drew | apply Ext.alloc))) hE).hc; (repeat (with_reducible replace hE := Ext.unD hE)); have hcF := hE.hc; clear hE; go_simp; rfl) ?_
      simp only [Act.put, List.setIfInBounds_toArray, List.set_cons_succ, List.set_cons_zero]
      refine plan_read _ (hi_of HO rfl) rfl (fun w' hE => by have hcE := (Ext.trans _ _ _ (by (repeat (first | exact hx5.out | apply Ext.drew | apply Ext.alloc))) hE).hc; (repeat (with_reducible replace hE := Ext.unD hE)); have hcF := hE.hc; clear hE; go_simp; rfl) ?_
      simp only [Act.put, List.setIfInBounds_toArray, List.set_cons_succ, List.set_cons_zero]
      refine plan_read _ (hi_of HO rfl) rfl (fun w' hE => by have hcE := (Ext.trans _ _ _ (by (repeat (first | exact hx5.out | apply Ext.drew | apply Ext.alloc))) hE).hc; (repeat (with_reducible replace hE := Ext.unD hE)); have hcF := hE.hc; clear hE; go_simp; rfl) ?_
      simp only [Act.put, List.setIfInBounds_toArray, List.set_cons_succ, List.set_cons_zero]
      refine plan_call1 en_r2Holds (hi_of HO rfl) rfl rfl (by go_simp; rfl) (by exact (r2Holds_any lo hi op y _)) ?_
      rintro e v101 ⟨rfl, hx101⟩
      refine ⟨_, rfl, fun _ => hx101, ?_⟩
      have hy101 := hid_mk (by first | (with_reducible exact Ext.unD hx101) | exact hx101 : Ext _ v101)
      replace hx101 := Ext.trans _ _ _ (by (repeat (first | exact hx5.out | apply Ext.drew | apply Ext.alloc))) hx101
      clear hc5 hl5 he5 hn5
      have hc101 := hx101.hc; have hl101 := hx101.hl; have he101 := hx101.hle; have hn101 := hx101.hne; replace hx101 := hid_mk hx101
      simp only [Act.put, List.setIfInBounds_toArray, List.set_cons_succ, List.set_cons_zero]
      rw [show rngHolds lo hi op y = true from HH.out]
      replace HA := hid_mk (HA.out.ext hy101.out)
      refine plan_read _ (hi_of HO rfl) rfl (fun w' hE => by have hcE := (Ext.trans _ _ _ (by (repeat (first | exact hx101.out | apply Ext.drew | apply Ext.alloc))) hE).hc; (repeat (with_reducible replace hE := Ext.unD hE)); have hcF := hE.hc; clear hE; go_simp; rfl) ?_
      simp only [Act.put, List.setIfInBounds_toArray, List.set_cons_succ, List.set_cons_zero]
      refine plan_done ?fin102
      go_wp2
      go_roundw
      case rel => exact ⟨k + 1, hlt, (by first | exact congrArg (Value.int .i64) HW.out | rfl), HA.out⟩
      case measure => (try simp only [HW.out]); simp [intOf]; omega
    · obtain rfl : k = ks.length := by omega
      have hmm : ¬ ((ks.length : Nat) : Int) < (ks.length : Int) := by omega
      go_wp2_with fail
      refine (r7Borders_any ks _ p (HS.out.ext (fun _ => rfl) HA.out.x) HO.out.k hp1 hp2).mono ?_
      rintro e W6 ⟨bv, rfl, hbo, hx⟩
      have HA6 := hid_mk (HA.out.ext hx)
      obtain ⟨bs, hbs⟩ : ∃ bs, bordersL ks p = bs := ⟨_, rfl⟩
      have HRR := hid_mk (show rangesL ⟨lo, hi, op⟩ ks p = splitL ⟨lo, hi, op⟩ bs by rw [rangesL, hbs])
      have hbn : bs.length ≤ 256 := by rw [← hbs, bord_len]; omega
      rw [hbs] at hbo
      obtain ⟨ba, bc, rfl, hblc, hbcl⟩ := hbo.gsl
      have HBC := hid_mk (fun (W : World) hp hx => gsl_cK (wr := W) hbcl hp hx)
      clear hx hbo hbcl hbs
      have hE := heap_alloc_new W6 (.cells #[] 26)
      have h6 := HA6.out.x.below.size
      have c0 := HA6.out.c0
      have c1 := HA6.out.c1
      have c2 := HA6.out.c2
      have cl := cell_lt c0
      go_wp2_with fail
      go_loopw [12, 13, 14] (fun v l i wr => ∃ k : Nat, k ≤ bs.length ∧ i = .int .i64 (k : Int) ∧ l = .string (lowAt lo bs k) ∧ Ext W6 wr ∧ OwG 26 3 cR wr W6.heap.size v (preS lo bs k)) (fun _ _ i _ => bs.length - (intOf i).toNat)
      case atStart => exact ⟨0, Nat.zero_le _, rfl, rfl, by (repeat (first | exact Ext.refl _ | apply Ext.drew_left | apply Ext.drew | apply Ext.alloc)), ownG_empty hE (Nat.le_refl _)⟩
      case round =>
        clear hE c0 c1 c2 cl
        obtain ⟨k, hk, rfl, rfl, hx, ho⟩ := hrel
        have HX := hid_mk hx
        have HW6 := hid_mk ho
        obtain ⟨L, hL⟩ : ∃ L, lowAt lo bs k = L := ⟨_, rfl⟩
        rw [hL]
        clear hx ho
        by_cases hlt : k < bs.length
        · obtain ⟨b, o, rfl, hcl⟩ := HBC.out wr (by omega) HX.out
          have a0 := hcl k hlt
          have hbl := cell_lt a0
          have HPS := hid_mk (show preS lo bs (k + 1) = preS lo bs k ++ [⟨L, bs[k], false⟩] by rw [preS_succ lo bs k hlt, hL])
          have HLA := hid_mk (lowAt_succ lo bs k hlt)
          obtain ⟨y, hy⟩ : ∃ y, bs[k] = y := ⟨_, rfl⟩
          rw [hy] at a0 HPS HLA
          have HY := hid_mk hy
          have hk1 : (k : Int) < (bs.length : Int) := by omega
          have hk0 : (0 : Int) ≤ (k : Int) := by omega
          have HW := hid_mk (show wrap64 ((k : Int) + 1) = (k : Int) + 1 from w64in (by omega))
          clear hcl hy hL
          have hx1 : Ext wr (wr.alloc (.cells #[.string L, .string y, .bool false] 26)) := by (repeat (first | exact Ext.refl _ | apply Ext.drew_left | apply Ext.drew | apply Ext.alloc))
          obtain ⟨v', w', hrun, ho, hg, hob⟩ := appendG okR (w := wr.alloc (.cells #[.string L, .string y, .bool false] 26)) (lv := .slice (some ⟨wr.heap.size, 0, none⟩) 1 1) (L := [⟨L, y, false⟩]) (HW6.out.ext hx1) (gsl_rg (by go_simp) (by go_simp) (by go_simp)) (by rw [preS_len]; simp; omega) (by have := HX.out.below.size; simp; omega)
          have HB2 := hid_mk (show Ext W6 w' ∧ OwG 26 3 cR w' W6.heap.size v' (preS lo bs (k + 1)) by rw [HPS.out]; exact ⟨ext_grown (Ext.trans _ _ _ HX.out hx1) hg (HW6.out.ext hx1) (Nat.le_refl _), ho⟩)
          obtain ⟨b2, o2, e2, hcl2⟩ := HBC.out w' (by omega) HB2.out.1
          cases e2
          have a1 := hcl2 k hlt
          rw [HY.out] at a1
          have al := cell_lt a1
          clear ho hg hob hx1 hcl2
          go_wp2
          go_roundw
          case rel => exact ⟨k + 1, hlt, (by first | exact congrArg (Value.int .i64) HW.out | rfl), by rw [HLA.out], HB2.out.1, HB2.out.2⟩
          case measure => (try simp only [HW.out]); simp [intOf]; omega
        · obtain rfl : k = bs.length := by omega
          have hmm : ¬ ((bs.length : Nat) : Int) < (bs.length : Int) := by omega
          replace HA6 := hid_mk (HA6.out.ext HX.out)
          have c0 := HA6.out.c0
          have c1 := HA6.out.c1
          have c2 := HA6.out.c2
          have cl := cell_lt c0
          have hx1 : Ext wr (wr.alloc (.cells #[.string L, .string hi, .bool op] 26)) := by (repeat (first | exact Ext.refl _ | apply Ext.drew_left | apply Ext.drew | apply Ext.alloc))
          obtain ⟨v', w', hrun, ho, hg, hob⟩ := appendG okR (w := wr.alloc (.cells #[.string L, .string hi, .bool op] 26)) (lv := .slice (some ⟨wr.heap.size, 0, none⟩) 1 1) (L := [⟨L, hi, op⟩]) (HW6.out.ext hx1) (gsl_rg (by go_simp) (by go_simp) (by go_simp)) (by rw [preS_len]; simp; omega) (by have := HX.out.below.size; simp; omega)
          have HB2 := hid_mk (show Ext w w' ∧ OwG 26 3 cR w' w.heap.size v' (rangesL ⟨lo, hi, op⟩ ks p) by
            rw [HRR.out, splitL, show lowAt (Rg.mk lo hi op).lo bs bs.length = L from hL]
            exact ⟨ext_grown (Ext.trans _ _ _ HA6.out.x hx1) hg (HW6.out.ext hx1) h6, ho.lower h6⟩)
          clear ho hg hob hx1 hL
          go_wp2
          refine bodyPost_ret (v := .tuple #[v', .int .i64 0]) (by unfold results; rw [Tryd.results43]; go_simp; first | done | rfl) rfl ⟨_, rfl, HB2.out.2, HB2.out.1⟩
theorem RnAt.app {w W Z : World} {r : Rg} {v : Value} {l : List ByteArray} (h : RnAt w W r) (hg : W.grownBy Z v.ownBlock) (ho : OwS W (w.heap.size + 1) v l) : RnAt w Z r := by
  have hx : Ext w Z := ext_grown h.x hg ho (by omega)
  have hk : ∀ o u, W.cell? ⟨w.heap.size, o, none⟩ = some u → Z.cell? ⟨w.heap.size, o, none⟩ = some u := fun o u hu => by
    have hne : some w.heap.size ≠ v.ownBlock := fun e => by
      have := (World.ownsRow.lt ho _ e.symm).1
      omega
    unfold World.cell? at hu ⊢
    rw [hg.block _ (cell_lt (o := o) (by unfold World.cell?; exact hu)) (fun e => hne e)]
    exact hu
  exact ⟨hx, hk _ _ h.c0, hk _ _ h.c1, hk _ _ h.c2⟩
theorem ghSplit_any {w : World} (r : Rg) (l : List Ent) (v : Value) (p : Nat) (hs : EntSl w v l) (ho : SplOk r (keysL l) p) :
    Calls Tryd.prog 38 #[rgV r, v, .int .i64 (p : Int)] w fun e w' => ∃ v, e = .returned v ∧ OwG 26 3 cR w' w.heap.size v (rangesL r (keysL l) p) ∧ Ext w w' := by
  have HO := hid_mk ho
  have hl : l.length ≤ 256 := by have := ho.k.n; rw [keysL, List.length_map] at this; exact this
  obtain ⟨lo, hi, op⟩ := r
  obtain ⟨a, c, rfl, hlc, hc63, hcells⟩ := hs
  have HC := hid_mk hcells
  clear hcells ho
  dsimp only [rgV]
  go_enter Tryd.func38, Tryd.ntmps38
  go_wp2_with fail
  go_loopw [7, 14] (fun v i wr => ∃ k : Nat, k ≤ l.length ∧ i = .int .i64 (k : Int) ∧ RnAt w wr ⟨lo, hi, op⟩ ∧ OwS wr (w.heap.size + 1) v (keysL (l.take k))) (fun _ i _ => l.length - (intOf i).toNat)
  case atStart => exact ⟨0, Nat.zero_le _, rfl, ⟨by (repeat (first | exact Ext.refl _ | apply Ext.drew_left | apply Ext.drew | apply Ext.alloc)), by go_simp, by go_simp, by go_simp⟩, ownS_nil _ _⟩
  case round =>
    obtain ⟨k, hk, rfl, hra, ho⟩ := hrel
    have HA := hid_mk hra
    have HS := hid_mk ho
    clear hra ho
    have h6 := HA.out.x.below.size
    have hcl0 := cell_lt HA.out.c0
    by_cases hlt : k < l.length
    · obtain ⟨b, o, rfl, hcl⟩ := HC.out (by omega)
      obtain ⟨a0, a1, a2, a3, a4⟩ := (hcl k hlt).ext HA.out.x
      have hbl := cell_lt a0
      have HT := hid_mk (show keysL (l.take (k + 1)) = keysL (l.take k) ++ [l[k].key] by rw [List.take_succ_eq_append_getElem hlt, keysL, List.map_append]; rfl)
      have HTL := hid_mk (show (keysL (l.take k)).length = k by rw [keysL, List.length_map, List.length_take]; omega)
      obtain ⟨y, hy⟩ : ∃ y, l[k] = y := ⟨_, rfl⟩
      rw [hy] at a0 a1 a2 a3 a4 HT
      have hk1 : (k : Int) < (l.length : Int) := by omega
      have hk0 : (0 : Int) ≤ (k : Int) := by omega
      have HW := hid_mk (show wrap64 ((k : Int) + 1) = (k : Int) + 1 from w64in (by omega))
      obtain ⟨W3, hW3⟩ : ∃ W3, (wr.alloc (.cells #[.string y.key, .int .i64 y.ctr, .int .i64 y.node, .string y.val, .bool y.dead] 55)).alloc (.cells #[.string y.key] 9) = W3 := ⟨_, rfl⟩
      have hx1 : Ext wr W3 := by rw [← hW3]; (repeat (first | exact Ext.refl _ | apply Ext.drew_left | apply Ext.drew | apply Ext.alloc))
      have hsz3 : (wr.alloc (.cells #[.string y.key, .int .i64 y.ctr, .int .i64 y.node, .string y.val, .bool y.dead] 55)).heap.size = wr.heap.size + 1 := World.size_alloc _ _
      obtain ⟨v', w', hrun, ho, hg, hob⟩ := appendS (w := W3) (p := y.key) (b := wr.heap.size + 1) (HS.out.ext hx1) (by rw [← hW3, ← hsz3]; exact heap_alloc_new _ _) (by rw [HTL.out]; omega) (by have := hx1.below.size; omega)
      have HB := hid_mk (show RnAt w w' ⟨lo, hi, op⟩ ∧ OwS w' (w.heap.size + 1) v' (keysL (l.take (k + 1))) by
        rw [HT.out]
        exact ⟨(HA.out.ext hx1).app hg (HS.out.ext hx1), ho⟩)
      rw [← hW3] at hrun
      clear hcl hy ho hg hob hx1 hsz3 hW3
      go_wp2
      go_roundw
      case rel => exact ⟨k + 1, hlt, (by first | exact congrArg (Value.int .i64) HW.out | rfl), HB.out.1, HB.out.2⟩
      case measure => (try simp only [HW.out]); simp [intOf]; omega
    · obtain rfl : k = l.length := by omega
      have hmm : ¬ ((l.length : Nat) : Int) < (l.length : Int) := by omega
      rw [List.take_length] at HS
      have HG := hid_mk HS.out.gsl
      obtain ⟨sa, sc, hsv⟩ := own_form HS.out
      subst hsv
      have c0 := HA.out.c0
      have c1 := HA.out.c1
      have c2 := HA.out.c2
      go_wp2_with fail
      refine (cRanges_any ⟨lo, hi, op⟩ (keysL l) _ p HG.out HO.out).mono ?_
      rintro e W7 ⟨rv, rfl, hro, hx⟩
      have HR := hid_mk (hro.lower h6)
      have HA7 := hid_mk (HA.out.ext hx)
      obtain ⟨ra, rc, rfl⟩ := own_form hro
      clear hx hro
      go_wp2
      go_ret
      exact ⟨_, rfl, HR.out, HA7.out.x⟩
end Go.Proofs.YtiimoaplhhnklaaDoor
