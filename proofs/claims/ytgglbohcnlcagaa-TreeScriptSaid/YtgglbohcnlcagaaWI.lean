/- A script over trees and their clones: the walk of TreeScript. -/
import Derived.Test.YtgglbohcnlcagaaWH
namespace Go.Proofs.Ytgglbohcnlcagaa
open Go.RowKit
set_option maxHeartbeats 2000000
set_option maxRecDepth 100000
set_option linter.unusedSimpArgs false
set_option linter.unusedVariables false
theorem en_TreeScript : Enters Try.prog 9 := ⟨_, Try.func9, by kernel_rfl, rfl⟩

theorem treeScript_walk (L : List POp) (v0 : Value) (W : World) (hL : OpsSl W v0 L) (hlen : L.length ≤ 2000000000000) :
    Calls Try.prog 9 #[v0] W fun e w' => e = .returned (.bool true) ∧ Ext W w' := by
  obtain ⟨a, c, rfl, hlc, hl42, hok, hcells⟩ := hL
  have HC := hid_mk hcells
  have HLC := hid_mk (And.intro hlc hlen)
  have HOK := hid_mk hok
  clear hcells hlc hl42 hok hlen
  go_enter Try.func9, Try.ntmps9
  go_wp2_with fail
  refine (shown_any _).mono ?_
  rintro e w1 ⟨rfl, hx⟩
  have HX := hid_mk hx
  clear hx
  go_wp2_with fail
  refine (begun_any w1).mono ?_
  rintro e w2 ⟨⟨wb, ga, gb, ta, rb, rfl, ⟨c0, c1⟩, ⟨z0, z1⟩, pa, pb, hm, hr, l1, l2, l3, l4, l5⟩, hx⟩
  have hwd : Wd W.heap.size w2 wb (.slice (some ⟨ga, 0, none⟩) 1 1) (.slice (some ⟨gb, 0, none⟩) 1 1) [⟨ta, rb, .nil, wb + 1⟩] := by
    have := HX.out.below.size
    have := hx.below.size
    refine ⟨by simp, by simp, c0, c1, z0, z1, own_of_ptr pa (by omega), own_of_ptr pb (by omega), by omega, by omega, ?_, ?_, by simp, ?_⟩
    · intro p hp
      rw [List.mem_singleton.1 hp]
      refine ⟨hm, hr, good_nil, ?_⟩
      obtain ⟨⟨sv, h1, ⟨a', c', rfl, -⟩⟩, -⟩ := hr
      exact ⟨a', _, c', h1, fun h => by simp at h⟩
    · intro p hp
      rw [List.mem_singleton.1 hp]
      exact ⟨by show W.heap.size ≤ ta; omega, by show W.heap.size ≤ rb; omega, by show rb ≠ wb; omega⟩
    · intro p hp hpos
      rw [List.mem_singleton.1 hp] at hpos
      simp [Tr.rows] at hpos
  have HW := hid_mk hwd
  replace HX := hid_mk (Ext.trans _ _ _ HX.out hx)
  clear c0 c1 z0 z1 pa pb hm hr l1 l2 l3 l4 l5 hx hwd
  go_wp2_with fail
  go_loopw [14] (fun x wr => ∃ m : Nat, m ≤ L.length ∧ x = .int .i64 (m : Int) ∧ ∃ va vb l, Wd W.heap.size wr wb va vb l ∧ (∀ q ∈ l, q.T.size ≤ m) ∧ Ext W wr) (fun x _ => L.length - (intOf x).toNat)
  case atStart => exact ⟨0, Nat.zero_le _, rfl, _, _, _, HW.out, by simp [Tr.size], HX.out⟩
  case round =>
    clear HW HX
    obtain ⟨m, hm, rfl, va, vb, l, hw, hsz, hx⟩ := hrel
    have HW := hid_mk hw
    have HSZ := hid_mk hsz
    have HXR := hid_mk hx
    clear hw hsz hx
    by_cases hlt : m < L.length
    · obtain ⟨b, o, rfl, hops⟩ := HC.out (by omega)
      have hop := (hops m hlt).xt (Xt.of HXR.out : Xt none _ _) (by simp)
      have hpok := HOK.out L[m] (List.getElem_mem hlt)
      clear hops
      generalize L[m] = p at *
      obtain ⟨r0, r1, r2, r3, r4, r5, r6, r7⟩ := hop
      have hbl := cell_lt r0
      have hm63 : (m : Int) < (L.length : Int) := by omega
      have hm0 : (0 : Int) ≤ (m : Int) := by omega
      have HPO := hid_mk hpok
      have hw1 : wrap64 ((m : Int) + 1) = (m : Int) + 1 := w64in (by have := HLC.out.2; omega)
      have HW1 := hid_mk hw1
      have HML := hid_mk hlt
      clear hpok hw1
      go_wp2_with fail
      refine (does_any (HW.out.ext (by (repeat (first | exact Ext.refl _ | apply Ext.drew_left | apply Ext.drew | apply Ext.alloc | (refine Ext.setX ?_ (by simp)))))) p HPO.out (fun q hq => by have := HSZ.out q hq; have := HLC.out.2; have := HML.out; omega)).mono ?_
      rintro e w5 ⟨rfl, va', vb', l', k1, k2, k3⟩
      have HW5 := hid_mk k1
      have HS5 := hid_mk (k2 m HSZ.out)
      have HX5 := hid_mk (k3 W (Nat.le_refl _) (Ext.trans _ _ _ HXR.out (by (repeat (first | exact Ext.refl _ | apply Ext.drew_left | apply Ext.drew | apply Ext.alloc | (refine Ext.setX ?_ (by simp)))))))
      clear k1 k2 k3 r0 r1 r2 r3 r4 r5 r6 r7 hbl
      go_wp2
      go_roundw
      case rel => exact ⟨m + 1, Nat.succ_le_of_lt HML.out, (by first | exact congrArg (Value.int .i64) HW1.out | rfl), va', vb', l', HW5.out, HS5.out, HX5.out⟩
      case measure => (try simp only [HW1.out]); simp [intOf]; have := HML.out; omega
    · have hmm : ¬ (m : Int) < (L.length : Int) := by omega
      have hca0 := HW.out.ca
      obtain ⟨n, hn⟩ : ∃ n, l.length = n := ⟨_, rfl⟩
      have HN := hid_mk hn
      have hn4 : n ≤ 4 := by rw [← hn]; exact HW.out.n4
      have hwbl := cell_lt hca0
      obtain ⟨ga', ca, rfl, hca, -, hga⟩ := HW.out.oa0
      obtain ⟨gb', cb, rfl, hcb, -, hgb⟩ := HW.out.ob0
      rw [hn] at HW hca hcb hca0
      have HGA := hid_mk hga
      have HGB := hid_mk hgb
      clear hga hgb hn
      go_wp2_with fail
      go_loopw [28] (fun x wi => ∃ j : Nat, j ≤ n ∧ x = .int .i64 (j : Int) ∧ Ext wr wi) (fun x _ => n - (intOf x).toNat)
      case atStart => exact ⟨0, Nat.zero_le _, rfl, Ext.refl _⟩
      case round =>
        obtain ⟨j, hj, rfl, hxi⟩ := hrel
        have HXI := hid_mk hxi
        by_cases hjl : j < n
        · have hjl' : j < l.length := by rw [HN.out]; exact hjl
          have hca0 := cell_ext hxi HW.out.ca
          have hcb0 := cell_ext hxi HW.out.cb
          have ha := cell_ext hxi (HGA.out j hjl')
          have hb := cell_ext hxi (HGB.out j hjl')
          have HP := hid_mk ((HW.out.at_ _ (List.getElem_mem hjl')).ext hxi)
          generalize l[j] = pj at *
          have hwbl := cell_lt hca0
          have hal := cell_lt ha
          have hbl := cell_lt hb
          have hj0 : (0 : Int) ≤ (j : Int) := by omega
          have hj1 : (j : Int) < (n : Int) := by omega
          have hw1 : wrap64 ((j : Int) + 1) = (j : Int) + 1 := w64in (by omega)
          have HW1 := hid_mk hw1
          clear hw1 hxi
          go_wp2_with fail
          refine wp_region_held_below (fun _ => true) (.quiet 0 (.quiet 1 (.quiet 2 (.quiet 3 (.quiet 4 (.quiet 5 (.quiet 6 (.quiet 7 (.quiet 8 (.quiet 9 (.quiet 10 (.quiet 11 (.quiet 12 (.quiet 13 (.alt 14 (.quiet 15 .done) .stop))))))))))))))) (by kernel_rfl) (by kernel_rfl) (by intro c a w d v h; cases d <;> exact h) (fun ops HO => ?_)
          refine plan_read _ (hi_of HO rfl) rfl (fun w' hE => by (repeat (with_reducible replace hE := Ext.unD hE)); have hcE := hE.hc; clear hE; go_simp; rfl) ?_
          simp only [Act.put, List.setIfInBounds_toArray, List.set_cons_succ, List.set_cons_zero]
          refine plan_read _ (hi_of HO rfl) rfl (fun w' hE => by (repeat (with_reducible replace hE := Ext.unD hE)); have hcE := hE.hc; clear hE; go_simp; rfl) ?_
          simp only [Act.put, List.setIfInBounds_toArray, List.set_cons_succ, List.set_cons_zero]
          refine plan_read _ (hi_of HO rfl) rfl (fun w' hE => by (repeat (with_reducible replace hE := Ext.unD hE)); have hcE := hE.hc; clear hE; go_simp; rfl) ?_
          simp only [Act.put, List.setIfInBounds_toArray, List.set_cons_succ, List.set_cons_zero]
          refine plan_read _ (hi_of HO rfl) rfl (fun w' hE => by (repeat (with_reducible replace hE := Ext.unD hE)); have hcE := hE.hc; clear hE; go_simp; rfl) ?_
          simp only [Act.put, List.setIfInBounds_toArray, List.set_cons_succ, List.set_cons_zero]
          refine plan_read _ (hi_of HO rfl) rfl (fun w' hE => by (repeat (with_reducible replace hE := Ext.unD hE)); have hcE := hE.hc; clear hE; go_simp; rfl) ?_
          simp only [Act.put, List.setIfInBounds_toArray, List.set_cons_succ, List.set_cons_zero]
          refine plan_read _ (hi_of HO rfl) rfl (fun w' hE => by (repeat (with_reducible replace hE := Ext.unD hE)); have hcE := hE.hc; clear hE; go_simp; rfl) ?_
          simp only [Act.put, List.setIfInBounds_toArray, List.set_cons_succ, List.set_cons_zero]
          refine plan_read _ (hi_of HO rfl) rfl (fun w' hE => by (repeat (with_reducible replace hE := Ext.unD hE)); have hcE := hE.hc; clear hE; go_simp; rfl) ?_
          simp only [Act.put, List.setIfInBounds_toArray, List.set_cons_succ, List.set_cons_zero]
          refine plan_read _ (hi_of HO rfl) rfl (fun w' hE => by (repeat (with_reducible replace hE := Ext.unD hE)); have hcE := hE.hc; clear hE; go_simp; rfl) ?_
          simp only [Act.put, List.setIfInBounds_toArray, List.set_cons_succ, List.set_cons_zero]
          refine plan_read _ (hi_of HO rfl) rfl (fun w' hE => by (repeat (with_reducible replace hE := Ext.unD hE)); have hcE := hE.hc; clear hE; go_simp; rfl) ?_
          simp only [Act.put, List.setIfInBounds_toArray, List.set_cons_succ, List.set_cons_zero]
          refine plan_read _ (hi_of HO rfl) rfl (fun w' hE => by (repeat (with_reducible replace hE := Ext.unD hE)); have hcE := hE.hc; clear hE; go_simp; rfl) ?_
          simp only [Act.put, List.setIfInBounds_toArray, List.set_cons_succ, List.set_cons_zero]
          refine plan_read _ (hi_of HO rfl) rfl (fun w' hE => by (repeat (with_reducible replace hE := Ext.unD hE)); have hcE := hE.hc; clear hE; go_simp; rfl) ?_
          simp only [Act.put, List.setIfInBounds_toArray, List.set_cons_succ, List.set_cons_zero]
          refine plan_read _ (hi_of HO rfl) rfl (fun w' hE => by (repeat (with_reducible replace hE := Ext.unD hE)); have hcE := hE.hc; clear hE; go_simp; rfl) ?_
          simp only [Act.put, List.setIfInBounds_toArray, List.set_cons_succ, List.set_cons_zero]
          refine plan_read _ (hi_of HO rfl) rfl (fun w' hE => by (repeat (with_reducible replace hE := Ext.unD hE)); have hcE := hE.hc; clear hE; go_simp; rfl) ?_
          simp only [Act.put, List.setIfInBounds_toArray, List.set_cons_succ, List.set_cons_zero]
          refine plan_read _ (hi_of HO rfl) rfl (fun w' hE => by (repeat (with_reducible replace hE := Ext.unD hE)); have hcE := hE.hc; clear hE; go_simp; rfl) ?_
          simp only [Act.put, List.setIfInBounds_toArray, List.set_cons_succ, List.set_cons_zero]
          refine plan_call1 en_Tsame (hi_of HO rfl) rfl rfl (by go_simp; rfl) (by exact (same_any (HP.out.mt.ext (by (repeat (first | exact Ext.refl _ | apply Ext.drew_left | apply Ext.drew | apply Ext.alloc)))) (HP.out.rt.ext (by (repeat (first | exact Ext.refl _ | apply Ext.drew_left | apply Ext.drew | apply Ext.alloc)))) HP.out.gd)) ?_
          rintro e v101 ⟨rfl, hx101⟩
          refine ⟨_, rfl, fun _ => hx101, ?_⟩
          have hy101 := hid_mk (by first | (with_reducible exact Ext.unD hx101) | exact hx101 : Ext _ v101)
          have hc101 := hx101.hc; have hl101 := hx101.hl; have he101 := hx101.hle; have hn101 := hx101.hne; replace hx101 := hid_mk hx101
          simp only [Act.put, List.setIfInBounds_toArray, List.set_cons_succ, List.set_cons_zero]
          have HQZ := hy101
          refine plan_read _ (hi_of HO rfl) rfl (fun w' hE => by have hcE := (Ext.trans _ _ _ (by (repeat (first | exact hx101.out | apply Ext.drew | apply Ext.alloc))) hE).hc; (repeat (with_reducible replace hE := Ext.unD hE)); have hcF := hE.hc; clear hE; go_simp; rfl) ?_
          simp only [Act.put, List.setIfInBounds_toArray, List.set_cons_succ, List.set_cons_zero]
          refine plan_done ?fin102
          go_wp2
          go_roundw
          case rel => exact ⟨j + 1, Nat.succ_le_of_lt hjl, (by first | exact congrArg (Value.int .i64) HW1.out | rfl), Ext.trans _ _ _ HXI.out (by first | exact HQZ.out | exact Ext.drew HQZ.out)⟩
          case measure => (try simp only [HW1.out]); simp [intOf]; omega
        · have hjj : ¬ (j : Int) < (n : Int) := by omega
          go_wp2
          go_ret
          exact ⟨rfl, Ext.trans _ _ _ HXR.out HXI.out⟩
end Go.Proofs.Ytgglbohcnlcagaa
