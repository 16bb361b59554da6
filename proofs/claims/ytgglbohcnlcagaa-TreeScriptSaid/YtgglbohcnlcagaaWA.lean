/- The document's tree in memory: what it answers. -/
import Derived.Test.YtgglbohcnlcagaaTU
import Derived.Test.YtgglbohcnlcagaaUB
namespace Go.Proofs.Ytgglbohcnlcagaa
open Go.RowKit
set_option maxHeartbeats 2000000
set_option maxRecDepth 100000
set_option linter.unusedSimpArgs false
set_option linter.unusedVariables false
theorem en_RTLen : Enters Try.prog 95 := ⟨_, Try.func95, by kernel_rfl, rfl⟩
theorem en_RTGet : Enters Try.prog 96 := ⟨_, Try.func96, by kernel_rfl, rfl⟩
theorem en_RTRank : Enters Try.prog 97 := ⟨_, Try.func97, by kernel_rfl, rfl⟩
theorem en_RTAt : Enters Try.prog 98 := ⟨_, Try.func98, by kernel_rfl, rfl⟩
theorem en_RTRows : Enters Try.prog 117 := ⟨_, Try.func117, by kernel_rfl, rfl⟩
theorem en_RTFold : Enters Try.prog 99 := ⟨_, Try.func99, by kernel_rfl, rfl⟩
theorem en_RTClone : Enters Try.prog 100 := ⟨_, Try.func100, by kernel_rfl, rfl⟩
theorem en_RTPut : Enters Try.prog 94 := ⟨_, Try.func94, by kernel_rfl, rfl⟩

/-- A document's tree: one cell, a row of rows. -/
structure RTree (w : World) (rb : Nat) (L : List R1) : Prop where
  tr : ∃ sv, w.cell? ⟨rb, 0, none⟩ = some sv ∧ RowsSl w sv L
  fz : w.frozen? ⟨rb, 0, none⟩ = false
theorem RTree.ext {w w' : World} {rb : Nat} {L : List R1} (h : RTree w rb L) (hx : Ext w w') : RTree w' rb L := by
  obtain ⟨⟨sv, h1, h2⟩, h3⟩ := h
  exact ⟨⟨sv, cell_ext hx h1, h2.ext hx⟩, (Xt.of hx : Xt none _ _).fz h1 (by simp) h3⟩
theorem rlen_any {w : World} {rb : Nat} {L : List R1} (h : RTree w rb L) :
    Calls Try.prog 95 #[.pointer (some ⟨rb, 0, none⟩)] w fun e w' => e = .returned (.int .i64 (L.length : Int)) ∧ w = w' := by
  obtain ⟨⟨sv, h1, h2⟩, h3⟩ := h
  obtain ⟨a, c, rfl, hlc, hl42, hcells⟩ := h2
  have HC := hid_mk hcells
  have HLC := hid_mk (And.intro hlc hl42)
  have hrl := cell_lt h1
  clear hcells hlc hl42 h3
  go_enter Try.func95, Try.ntmps95
  go_wp2
  go_ret
  exact ⟨rfl, rfl⟩
theorem cnt_take {L : List R1} {m : Nat} (hm : m < L.length) (k : ByteArray) : cnt k (L.take (m + 1)) = cnt k (L.take m) + (if Op.bytesLess L[m].1.toList k.toList = true then 1 else 0) := by
  unfold cnt
  rw [List.take_succ_eq_append_getElem hm, List.countP_append]
  simp [List.countP_cons]
theorem rrank_any {w : World} {rb : Nat} {L : List R1} (k : ByteArray) (h : RTree w rb L) :
    Calls Try.prog 97 #[.pointer (some ⟨rb, 0, none⟩), .string k] w fun e w' => e = .returned (.int .i64 (cnt k L : Int)) ∧ Ext w w' := by
  obtain ⟨⟨sv, h1, h2⟩, h3⟩ := h
  obtain ⟨a, c, rfl, hlc, hl42, hcells⟩ := h2
  have HC := hid_mk hcells
  have HLC := hid_mk (And.intro hlc hl42)
  have hrl := cell_lt h1
  clear hcells hlc hl42 h3
  go_enter Try.func97, Try.ntmps97
  go_wp2
  go_loopw [5, 13] (fun z x wr => ∃ m : Nat, m ≤ L.length ∧ x = .int .i64 (m : Int) ∧ z = .int .i64 (cnt k (L.take m) : Int) ∧ Ext w wr) (fun _ x _ => L.length - (intOf x).toNat)
  case atStart => exact ⟨0, Nat.zero_le _, rfl, by simp [cnt], Ext.refl _⟩
  case round =>
    obtain ⟨m, hm, rfl, rfl, hx⟩ := hrel
    have HXR := hid_mk hx
    clear hx
    by_cases hlt : m < L.length
    · skip
      obtain ⟨b, o, rfl, hrows⟩ := HC.out (by omega)
      obtain ⟨r0, r1, r2, r3⟩ := hrows.xt (Xt.of HXR.out : Xt none _ _) (by simp) m hlt
      have hbl := cell_lt r0
      have hm63 : (m : Int) < (L.length : Int) := by omega
      have hm0 : (0 : Int) ≤ (m : Int) := by omega
      have hw1 : wrap64 ((m : Int) + 1) = (m : Int) + 1 := w64in (by have := HLC.out.2; omega)
      clear hrows
      have HT := hid_mk (cnt_take hlt k)
      have hcl := cnt_le (k := k) (L.take m)
      rw [List.length_take] at hcl
      generalize L[m] = r at *
      generalize cnt k (L.take m) = z at *
      have e2 : wrap64 ((z : Int) + 1) = (z : Int) + 1 := w64in (by have := HLC.out.2; clear hw1; omega)
      clear hcl
      by_cases hb : Op.bytesLess r.1.toList k.toList = true
      · have HT' := hid_mk (show cnt k (L.take (m + 1)) = z + 1 by rw [HT.out, if_pos hb])
        go_wp2
        go_roundw
        case rel => exact ⟨m + 1, Nat.succ_le_of_lt hlt, (by first | exact congrArg (Value.int .i64) hw1 | rfl), (by rw [HT'.out]; first | exact congrArg (Value.int .i64) e2 | rfl), Ext.trans _ _ _ HXR.out (by (repeat (first | exact Ext.refl _ | apply Ext.drew_left | apply Ext.drew | apply Ext.alloc | (refine Ext.setX ?_ (by simp)))))⟩
        case measure => (try simp only [hw1]); clear hw1 e2; simp [intOf]; omega
      · have HT' := hid_mk (show cnt k (L.take (m + 1)) = z by rw [HT.out, if_neg hb]; rfl)
        have hb' : Op.bytesLess r.1.toList k.toList = false := by simpa using hb
        clear hb
        go_wp2
        go_roundw
        case rel => exact ⟨m + 1, Nat.succ_le_of_lt hlt, (by first | exact congrArg (Value.int .i64) hw1 | rfl), (by rw [HT'.out]), Ext.trans _ _ _ HXR.out (by (repeat (first | exact Ext.refl _ | apply Ext.drew_left | apply Ext.drew | apply Ext.alloc | (refine Ext.setX ?_ (by simp)))))⟩
        case measure => (try simp only [hw1]); clear hw1 e2; simp [intOf]; omega
    · obtain rfl : m = L.length := by omega
      rw [List.take_length]
      have hmm : ¬ ((L.length : Nat) : Int) < (L.length : Int) := by omega
      go_wp2
      go_ret
      exact ⟨rfl, HXR.out⟩
theorem fnd_here {L : List R1} {m : Nat} (hm : m < L.length) {k : ByteArray} (h : fnd k (L.take m) = none) (hk : L[m].1 = k) : fnd k L = some L[m] := by
  have e : L = L.take m ++ L[m] :: L.drop (m + 1) := by rw [← List.drop_eq_getElem_cons hm, List.take_append_drop]
  have h2 : fnd k (L.take m ++ L[m] :: L.drop (m + 1)) = some L[m] := by
    rw [Tr.fnd_append, h, Option.none_or]
    simp only [fnd, List.find?_cons, hk, decide_true]
  rw [← e] at h2
  exact h2
theorem fnd_next {L : List R1} {m : Nat} (hm : m < L.length) {k : ByteArray} (h : fnd k (L.take m) = none) (hk : ¬ L[m].1 = k) : fnd k (L.take (m + 1)) = none := by
  rw [List.take_succ_eq_append_getElem hm, Tr.fnd_append, h]
  simp [fnd, hk]
theorem rget_any {w : World} {rb : Nat} {L : List R1} (k : ByteArray) (h : RTree w rb L) :
    Calls Try.prog 96 #[.pointer (some ⟨rb, 0, none⟩), .string k] w fun e w' => e = .returned (.tuple #[.int .i64 (((fnd k L).map (·.2.1)).getD 0), .bool (fnd k L).isSome]) ∧ Ext w w' := by
  obtain ⟨⟨sv, h1, h2⟩, h3⟩ := h
  obtain ⟨a, c, rfl, hlc, hl42, hcells⟩ := h2
  have HC := hid_mk hcells
  have HLC := hid_mk (And.intro hlc hl42)
  have hrl := cell_lt h1
  clear hcells hlc hl42 h3
  go_enter Try.func96, Try.ntmps96
  go_wp2
  go_loopw [13] (fun x wr => ∃ m : Nat, m ≤ L.length ∧ x = .int .i64 (m : Int) ∧ fnd k (L.take m) = none ∧ Ext w wr) (fun x _ => L.length - (intOf x).toNat)
  case atStart => exact ⟨0, Nat.zero_le _, rfl, by simp [fnd], Ext.refl _⟩
  case round =>
    obtain ⟨m, hm, rfl, hf, hx⟩ := hrel
    have HXR := hid_mk hx
    have HF := hid_mk hf
    clear hx hf
    by_cases hlt : m < L.length
    · skip
      obtain ⟨b, o, rfl, hrows⟩ := HC.out (by omega)
      obtain ⟨r0, r1, r2, r3⟩ := hrows.xt (Xt.of HXR.out : Xt none _ _) (by simp) m hlt
      have hbl := cell_lt r0
      have hm63 : (m : Int) < (L.length : Int) := by omega
      have hm0 : (0 : Int) ≤ (m : Int) := by omega
      have hw1 : wrap64 ((m : Int) + 1) = (m : Int) + 1 := w64in (by have := HLC.out.2; omega)
      clear hrows
      have HA := hid_mk (fun hk => fnd_here hlt (k := k) HF.out hk)
      have HB := hid_mk (fun hk => fnd_next hlt (k := k) HF.out hk)
      generalize L[m] = r at *
      by_cases hk : r.1 = k
      · have hq : (r.1.toList == k.toList) = true := by rw [hk]; simp
        have HR := hid_mk (HA.out hk)
        clear hk
        go_wp2
        refine bodyPost_ret (v := .tuple #[.int .i64 r.2.1, .bool true]) (by unfold results; rw [Try.results96]; go_simp) rfl ⟨by rw [HR.out]; rfl, Ext.trans _ _ _ HXR.out (by (repeat (first | exact Ext.refl _ | apply Ext.drew_left | apply Ext.drew | apply Ext.alloc | (refine Ext.setX ?_ (by simp)))))⟩
      · have hq : (r.1.toList == k.toList) = false := by
          simp only [beq_eq_false_iff_ne, ne_eq]
          exact fun e => hk (ba_ext e)
        have HR := hid_mk (HB.out hk)
        clear hk
        go_wp2
        go_roundw
        case rel => exact ⟨m + 1, Nat.succ_le_of_lt hlt, (by first | exact congrArg (Value.int .i64) hw1 | rfl), HR.out, Ext.trans _ _ _ HXR.out (by (repeat (first | exact Ext.refl _ | apply Ext.drew_left | apply Ext.drew | apply Ext.alloc | (refine Ext.setX ?_ (by simp)))))⟩
        case measure => (try simp only [hw1]); clear hw1; simp [intOf]; omega
    · obtain rfl : m = L.length := by omega
      rw [List.take_length] at HF
      have hmm : ¬ ((L.length : Nat) : Int) < (L.length : Int) := by omega
      go_wp2
      refine bodyPost_ret (v := .tuple #[.int .i64 0, .bool false]) (by unfold results; rw [Try.results96]; go_simp) rfl ⟨by rw [HF.out]; rfl, HXR.out⟩
theorem rat_any {w : World} {rb : Nat} {L : List R1} (i : Int) (hi : -9223372036854775808 ≤ i ∧ i ≤ 9223372036854775807) (h : RTree w rb L) :
    Calls Try.prog 98 #[.pointer (some ⟨rb, 0, none⟩), .int .i64 i] w fun e w' => e = .returned (atV1 (if i < 0 then none else (L[i.toNat]?).map (fun r => (r.1, r.2.1)))) ∧ Ext w w' := by
  obtain ⟨⟨sv, h1, h2⟩, h3⟩ := h
  obtain ⟨a, c, rfl, hlc, hl42, hcells⟩ := h2
  have HC := hid_mk hcells
  have HLC := hid_mk (And.intro hlc hl42)
  have hrl := cell_lt h1
  clear hcells hlc hl42 h3
  obtain ⟨y, hy⟩ : ∃ y : Option (ByteArray × Int), (if i < 0 then none else (L[i.toNat]?).map (fun r => (r.1, r.2.1))) = y := ⟨_, rfl⟩
  rw [hy]
  go_enter Try.func98, Try.ntmps98
  by_cases h0 : i < 0
  · rw [if_pos h0] at hy
    subst hy
    go_wp2
    refine bodyPost_ret (v := .tuple #[.string ⟨#[]⟩, .int .i64 0, .bool false]) (by unfold results; rw [Try.results98]; go_simp) rfl ⟨rfl, Ext.refl _⟩
  · rw [if_neg h0] at hy
    have h00 : (0 : Int) ≤ i := by omega
    by_cases h2 : i < (L.length : Int)
    · have hlt : i.toNat < L.length := by omega
      rw [List.getElem?_eq_getElem hlt] at hy
      obtain ⟨b, o, rfl, hrows⟩ := HC.out (by omega)
      obtain ⟨r0, r1, r2, r3⟩ := hrows i.toNat hlt
      have hbl := cell_lt r0
      generalize L[i.toNat] = r at *
      subst hy
      obtain ⟨m, rfl⟩ : ∃ m : Nat, i = (m : Int) := ⟨i.toNat, by omega⟩
      simp only [Int.toNat_natCast] at r0 r1 r2 r3 hlt
      have h3 : ¬ (L.length : Int) ≤ (m : Int) := by omega
      clear hrows
      go_wp2
      refine wp_region_held_below (fun _ => true) (.quiet 0 (.quiet 1 (.quiet 2 (.quiet 3 (.quiet 4 (.quiet 5 (.quiet 6 (.quiet 7 (.quiet 8 (.quiet 9 (.quiet 10 (.quiet 11 (.quiet 12 (.quiet 13 (.quiet 14 (.quiet 15 (.quiet 16 (.quiet 17 (.quiet 18 .done))))))))))))))))))) (by kernel_rfl) (by kernel_rfl) (by intro c a w d v h; cases d <;> exact h) (fun ops HO => ?_)
      refine plan_read _ (hi_of HO rfl) rfl (fun w' hE => by (repeat (with_reducible replace hE := Ext.unD hE)); have hcE := hE.hc; clear hE; go_simp; rfl) ?_
      simp only [Act.put, List.setIfInBounds_toArray, List.set_cons_succ, List.set_cons_zero]
      refine plan_read _ (hi_of HO rfl) rfl (fun w' hE => by (repeat (with_reducible replace hE := Ext.unD hE)); have hcE := hE.hc; clear hE; go_simp; rfl) ?_
      simp only [Act.put, List.setIfInBounds_toArray, List.set_cons_succ, List.set_cons_zero]
      refine plan_read _ (hi_of HO rfl) rfl (fun w' hE => by (repeat (with_reducible replace hE := Ext.unD hE)); have hcE := hE.hc; clear hE; go_simp; rfl) ?_
      simp only [Act.put, List.setIfInBounds_toArray, List.set_cons_succ, List.set_cons_zero]
      refine plan_read _ (hi_of HO rfl) rfl (fun w' hE => by (repeat (with_reducible replace hE := Ext.unD hE)); have hcE := hE.hc; clear hE; go_simp; rfl) ?_
      simp only [Act.put, List.setIfInBounds_toArray, List.set_cons_succ, List.set_cons_zero]
      refine plan_read _ (hi_of HO rfl) rfl (fun w' hE => by (repeat (with_reducible replace hE := Ext.unD hE)); have hcE := hE.hc; clear hE; go_simp; rfl) ?_
      simp only [Act.put, List.setIfInBounds_toArray, List.set_cons_succ, List.set_cons_zero]
      refine plan_read _ (hi_of HO rfl) rfl (fun w' hE => by (repeat (with_reducible replace hE := Ext.unD hE)); have hcE := hE.hc; clear hE; go_simp; rfl) ?_
      simp only [Act.put, List.setIfInBounds_toArray, List.set_cons_succ, List.set_cons_zero]
      refine plan_read _ (hi_of HO rfl) rfl (fun w' hE => by (repeat (with_reducible replace hE := Ext.unD hE)); have hcE := hE.hc; clear hE; go_simp; rfl) ?_
      simp only [Act.put, List.setIfInBounds_toArray, List.set_cons_succ, List.set_cons_zero]
      refine plan_read _ (hi_of HO rfl) rfl (fun w' hE => by (repeat (with_reducible replace hE := Ext.unD hE)); have hcE := hE.hc; clear hE; go_simp; rfl) ?_
      simp only [Act.put, List.setIfInBounds_toArray, List.set_cons_succ, List.set_cons_zero]
      refine plan_read _ (hi_of HO rfl) rfl (fun w' hE => by (repeat (with_reducible replace hE := Ext.unD hE)); have hcE := hE.hc; clear hE; go_simp; rfl) ?_
      simp only [Act.put, List.setIfInBounds_toArray, List.set_cons_succ, List.set_cons_zero]
      refine plan_read _ (hi_of HO rfl) rfl (fun w' hE => by (repeat (with_reducible replace hE := Ext.unD hE)); have hcE := hE.hc; clear hE; go_simp; rfl) ?_
      simp only [Act.put, List.setIfInBounds_toArray, List.set_cons_succ, List.set_cons_zero]
      refine plan_read _ (hi_of HO rfl) rfl (fun w' hE => by (repeat (with_reducible replace hE := Ext.unD hE)); have hcE := hE.hc; clear hE; go_simp; rfl) ?_
      simp only [Act.put, List.setIfInBounds_toArray, List.set_cons_succ, List.set_cons_zero]
      refine plan_read _ (hi_of HO rfl) rfl (fun w' hE => by (repeat (with_reducible replace hE := Ext.unD hE)); have hcE := hE.hc; clear hE; go_simp; rfl) ?_
      simp only [Act.put, List.setIfInBounds_toArray, List.set_cons_succ, List.set_cons_zero]
      refine plan_read _ (hi_of HO rfl) rfl (fun w' hE => by (repeat (with_reducible replace hE := Ext.unD hE)); have hcE := hE.hc; clear hE; go_simp; rfl) ?_
      simp only [Act.put, List.setIfInBounds_toArray, List.set_cons_succ, List.set_cons_zero]
      refine plan_read _ (hi_of HO rfl) rfl (fun w' hE => by (repeat (with_reducible replace hE := Ext.unD hE)); have hcE := hE.hc; clear hE; go_simp; rfl) ?_
      simp only [Act.put, List.setIfInBounds_toArray, List.set_cons_succ, List.set_cons_zero]
      refine plan_read _ (hi_of HO rfl) rfl (fun w' hE => by (repeat (with_reducible replace hE := Ext.unD hE)); have hcE := hE.hc; clear hE; go_simp; rfl) ?_
      simp only [Act.put, List.setIfInBounds_toArray, List.set_cons_succ, List.set_cons_zero]
      refine plan_read _ (hi_of HO rfl) rfl (fun w' hE => by (repeat (with_reducible replace hE := Ext.unD hE)); have hcE := hE.hc; clear hE; go_simp; rfl) ?_
      simp only [Act.put, List.setIfInBounds_toArray, List.set_cons_succ, List.set_cons_zero]
      refine plan_read _ (hi_of HO rfl) rfl (fun w' hE => by (repeat (with_reducible replace hE := Ext.unD hE)); have hcE := hE.hc; clear hE; go_simp; rfl) ?_
      simp only [Act.put, List.setIfInBounds_toArray, List.set_cons_succ, List.set_cons_zero]
      refine plan_read _ (hi_of HO rfl) rfl (fun w' hE => by (repeat (with_reducible replace hE := Ext.unD hE)); have hcE := hE.hc; clear hE; go_simp; rfl) ?_
      simp only [Act.put, List.setIfInBounds_toArray, List.set_cons_succ, List.set_cons_zero]
      refine plan_read _ (hi_of HO rfl) rfl (fun w' hE => by (repeat (with_reducible replace hE := Ext.unD hE)); have hcE := hE.hc; clear hE; go_simp; rfl) ?_
      simp only [Act.put, List.setIfInBounds_toArray, List.set_cons_succ, List.set_cons_zero]
      refine plan_done ?fin101
      go_wp2
      refine bodyPost_ret (v := .tuple #[.string r.1, .int .i64 r.2.1, .bool true]) (by unfold results; rw [Try.results98]; go_simp) rfl ⟨rfl, by (repeat (first | exact Ext.refl _ | apply Ext.drew_left | apply Ext.drew | apply Ext.alloc))⟩
    · rw [List.getElem?_eq_none (by omega)] at hy
      subst hy
      have h3 : (L.length : Int) ≤ i := by omega
      go_wp2
      refine bodyPost_ret (v := .tuple #[.string ⟨#[]⟩, .int .i64 0, .bool false]) (by unfold results; rw [Try.results98]; go_simp) rfl ⟨rfl, Ext.refl _⟩
end Go.Proofs.Ytgglbohcnlcagaa
