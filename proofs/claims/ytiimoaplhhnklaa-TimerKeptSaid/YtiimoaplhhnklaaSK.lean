/- The document's timers in memory: what they answer. -/
import Derived.Test.YtiimoaplhhnklaaSH
namespace Go.Proofs.Ytiimoaplhhnklaa
open Go.RowKit
set_option maxHeartbeats 4000000
set_option maxRecDepth 100000
set_option linter.unusedSimpArgs false
set_option linter.unusedVariables false
theorem en_rTmNew : Enters Try.prog 51 := ⟨_, Try.func51, by kernel_rfl, rfl⟩
theorem en_rTmSet : Enters Try.prog 52 := ⟨_, Try.func52, by kernel_rfl, rfl⟩
theorem en_rTmDrop : Enters Try.prog 53 := ⟨_, Try.func53, by kernel_rfl, rfl⟩
theorem en_rTmAt : Enters Try.prog 54 := ⟨_, Try.func54, by kernel_rfl, rfl⟩
theorem en_rTmLen : Enters Try.prog 56 := ⟨_, Try.func56, by kernel_rfl, rfl⟩
theorem en_rTmNext : Enters Try.prog 55 := ⟨_, Try.func55, by kernel_rfl, rfl⟩
theorem en_rTmDue : Enters Try.prog 32 := ⟨_, Try.func32, by kernel_rfl, rfl⟩
theorem en_rTmWithout : Enters Try.prog 70 := ⟨_, Try.func70, by kernel_rfl, rfl⟩
attribute [local go_sem ↓] neq_nm eql_nm

structure RTm (B : Nat) (w : World) (rb : Nat) (v : Value) (l : List Al) : Prop where
  blk : w.heap[rb]? = some (.cells #[v] 77 (0, 0))
  own : OwnA w B 82 v l
  lo : B ≤ rb ∧ B ≤ w.heap.size
theorem RTm.c0 {B : Nat} {w : World} {rb : Nat} {v : Value} {l : List Al} (h : RTm B w rb v l) : w.cell? ⟨rb, 0, none⟩ = some v := by simp [World.cell?, h.blk]
theorem RTm.f0 {B : Nat} {w : World} {rb : Nat} {v : Value} {l : List Al} (h : RTm B w rb v l) : w.frozen? ⟨rb, 0, none⟩ = false := by simp [World.frozen?, h.blk]
def fpR (rb : Nat) (v : Value) : List Nat := rb :: v.ownBlock.toList
theorem RTm.lt {B : Nat} {w : World} {rb : Nat} {v : Value} {l : List Al} (h : RTm B w rb v l) : rb < w.heap.size ∧ (∀ g, v.ownBlock = some g → B ≤ g ∧ g < w.heap.size) ∧ v.ownBlock ≠ some rb := by
  have hb := h.blk
  refine ⟨(Array.getElem?_eq_some_iff.1 hb).1, fun g hg => World.ownsRow.lt h.own g hg, fun e => ?_⟩
  rcases h.own.2 with ⟨e1, -⟩ | ⟨g, cap, cur, e1, -, e2, -⟩
  · rw [e1] at e; cases e
  · rw [e1] at e; cases e; rw [hb] at e2; cases e2
theorem RTm.fp_lt {B : Nat} {w : World} {rb : Nat} {v : Value} {l : List Al} (h : RTm B w rb v l) : ∀ x ∈ fpR rb v, B ≤ x ∧ x < w.heap.size := fun x hx => by
  simp [fpR] at hx
  rcases hx with rfl | hx
  · exact ⟨h.lo.1, h.lt.1⟩
  · exact h.lt.2.1 x hx
theorem RTm.away {B : Nat} {w w' : World} {rb : Nat} {v : Value} {l : List Al} {L : List Nat} (h : RTm B w rb v l) (hx : Xl L w w') (hn : ∀ x ∈ fpR rb v, x ∉ L) : RTm B w' rb v l :=
  ⟨(hx.block rb h.lt.1 (hn _ (by simp [fpR]))).trans h.blk, xl_grown hx (fun g hg => hn _ (by simp [fpR, hg])) h.own, ⟨h.lo.1, Nat.le_trans h.lo.2 hx.size⟩⟩
theorem RTm.ext {B : Nat} {w w' : World} {rb : Nat} {v : Value} {l : List Al} (h : RTm B w rb v l) (hx : Ext w w') : RTm B w' rb v l := h.away (L := []) (Xl.of hx) (fun _ _ => by simp)
theorem RTm.sl {B : Nat} {w : World} {rb : Nat} {v : Value} {l : List Al} (h : RTm B w rb v l) (hl : l.length ≤ 1000000000000) : AlsSl w v l := h.own.sl hl
theorem rtlen_any {B : Nat} {w : World} {rb : Nat} {v : Value} {l : List Al} (h : RTm B w rb v l) :
    Calls Try.prog 56 #[.pointer (some ⟨rb, 0, none⟩)] w fun e w' => e = .returned (.int .i64 (l.length : Int)) ∧ w = w' := by
  have h1 := h.c0
  have hl := cell_lt h1
  obtain ⟨a, c, rfl⟩ := own_form h.own
  clear h
  go_enter Try.func56, Try.ntmps56
  go_wp2
  go_ret
  exact ⟨rfl, rfl⟩
theorem rtnew_any (w : World) : Calls Try.prog 51 #[] w fun e w' => ∃ rb, e = .returned (.pointer (some ⟨rb, 0, none⟩)) ∧ w.heap.size ≤ rb ∧ RTm w.heap.size w' rb (.slice none 0 0) [] ∧ Ext w w' := by
  go_enter Try.func51, Try.ntmps51
  go_wp2
  go_ret
  have hx : Ext w (w.alloc (.cells #[.slice none 0 0] 77)) := by (repeat (first | exact Ext.refl _ | apply Ext.drew_left | apply Ext.drew | apply Ext.alloc))
  exact ⟨w.heap.size, rfl, Nat.le_refl _, ⟨heap_alloc_new w _, ⟨rfl, .inl ⟨rfl, rfl⟩⟩, ⟨Nat.le_refl _, hx.below.size⟩⟩, hx⟩
theorem rtnext_any {B : Nat} {w : World} {rb : Nat} {v : Value} {l : List Al} (h : RTm B w rb v l) :
    Calls Try.prog 55 #[.pointer (some ⟨rb, 0, none⟩)] w fun e w' => e = .returned (nextV l) ∧ Ext w w' := by
  have h1 := h.c0
  have htl := cell_lt h1
  match l, h with
  | [], h =>
    obtain ⟨a, c, rfl⟩ := own_form h.own
    simp only [List.length_nil] at h1
    clear h
    go_enter Try.func55, Try.ntmps55
    go_wp2
    refine bodyPost_ret (v := .tuple #[nmV (0, 0, 0), .int .i64 0, .bool false]) (by unfold results; rw [Try.results55]; go_simp) rfl ⟨rfl, by (repeat (first | exact Ext.refl _ | apply Ext.drew_left | apply Ext.drew | apply Ext.alloc | (refine Ext.setX ?_ (by simp))))⟩
  | x :: l, h =>
    obtain ⟨g, c, rfl, hlc, -, -, hgl, hat⟩ := ownA_at h.own (by simp)
    obtain ⟨a0, a1, a2, a3⟩ := hat 0 (by simp)
    simp only [List.getElem_cons_zero, Nat.zero_mul, Nat.zero_add] at a0 a1 a2 a3
    simp only [List.length_cons] at h1 hlc
    have hn0 : ¬ ((l.length : Int) + 1 = 0) := by omega
    have hn1 : (0 : Int) < (l.length : Int) + 1 := by omega
    clear h hat
    go_enter Try.func55, Try.ntmps55
    go_wp2_with fail
    refine wp_region_held_planC (Xl [w.heap.size]) (fun _ => true) (fun i => [0, 1, 2, 4, 5, 7, 8, 9, 11, 12, 15, 16].contains i) (.quiet 0 (.quiet 1 (.quiet 2 (.quiet 3 (.quiet 4 (.quiet 5 (.quiet 6 (.quiet 7 (.quiet 8 (.quiet 9 (.quiet 10 (.quiet 11 (.quiet 12 (.quiet 13 (.alt 14 (.quiet 15 (.quiet 16 .done)) .stop))))))))))))))) (by kernel_rfl) (by kernel_rfl) Xl.refl Xl.trans (by intro c a w d v h; cases d <;> exact h) (fun ops HO => ?_)
    refine planC_calm _ (hi_of HO rfl) rfl (fun w' => by go_simp; rfl) ?_
    simp only [Act.put, List.setIfInBounds_toArray, List.set_cons_succ, List.set_cons_zero]
    refine planC_calm _ (hi_of HO rfl) rfl (fun w' => by go_simp; rfl) ?_
    simp only [Act.put, List.setIfInBounds_toArray, List.set_cons_succ, List.set_cons_zero]
    refine planC_calm _ (hi_of HO rfl) rfl (fun w' => by go_simp; rfl) ?_
    simp only [Act.put, List.setIfInBounds_toArray, List.set_cons_succ, List.set_cons_zero]
    refine planC_read _ (hi_of HO rfl) rfl rfl (fun w' hE => by have hcE := xl_news hE; clear hE; go_simp; rfl) ?_
    simp only [Act.put, List.setIfInBounds_toArray, List.set_cons_succ, List.set_cons_zero]
    refine planC_calm _ (hi_of HO rfl) rfl (fun w' => by go_simp; rfl) ?_
    simp only [Act.put, List.setIfInBounds_toArray, List.set_cons_succ, List.set_cons_zero]
    refine planC_calm _ (hi_of HO rfl) rfl (fun w' => by go_simp; rfl) ?_
    simp only [Act.put, List.setIfInBounds_toArray, List.set_cons_succ, List.set_cons_zero]
    refine planC_read _ (hi_of HO rfl) rfl rfl (fun w' hE => by have hcE := xl_news hE; clear hE; go_simp; rfl) ?_
    simp only [Act.put, List.setIfInBounds_toArray, List.set_cons_succ, List.set_cons_zero]
    refine planC_calm _ (hi_of HO rfl) rfl (fun w' => by go_simp; rfl) ?_
    simp only [Act.put, List.setIfInBounds_toArray, List.set_cons_succ, List.set_cons_zero]
    refine planC_calm _ (hi_of HO rfl) rfl (fun w' => by go_simp; rfl) ?_
    simp only [Act.put, List.setIfInBounds_toArray, List.set_cons_succ, List.set_cons_zero]
    refine planC_calm _ (hi_of HO rfl) rfl (fun w' => by go_simp; rfl) ?_
    simp only [Act.put, List.setIfInBounds_toArray, List.set_cons_succ, List.set_cons_zero]
    refine planC_read _ (hi_of HO rfl) rfl rfl (fun w' hE => by have hcE := xl_news hE; clear hE; go_simp; rfl) ?_
    simp only [Act.put, List.setIfInBounds_toArray, List.set_cons_succ, List.set_cons_zero]
    refine planC_calm _ (hi_of HO rfl) rfl (fun w' => by go_simp; rfl) ?_
    simp only [Act.put, List.setIfInBounds_toArray, List.set_cons_succ, List.set_cons_zero]
    refine planC_calm _ (hi_of HO rfl) rfl (fun w' => by go_simp; rfl) ?_
    simp only [Act.put, List.setIfInBounds_toArray, List.set_cons_succ, List.set_cons_zero]
    refine planC_read _ (hi_of HO rfl) rfl rfl (fun w' hE => by have hcE := xl_news hE; clear hE; go_simp; rfl) ?_
    simp only [Act.put, List.setIfInBounds_toArray, List.set_cons_succ, List.set_cons_zero]
    refine planC_loud1 (hi_of HO rfl) rfl ?_
    go_simp
    refine ⟨xl_realloc, ?_⟩
    refine planC_calm _ (hi_of HO rfl) rfl (fun w' => by go_simp; rfl) ?_
    simp only [Act.put, List.setIfInBounds_toArray, List.set_cons_succ, List.set_cons_zero]
    refine planC_calm _ (hi_of HO rfl) rfl (fun w' => by go_simp; rfl) ?_
    simp only [Act.put, List.setIfInBounds_toArray, List.set_cons_succ, List.set_cons_zero]
    refine planC_done ?fin101
    go_wp2
    refine bodyPost_ret (v := .tuple #[nmV x.1, .int .i64 x.2, .bool true]) (by unfold results; rw [Try.results55]; go_simp) rfl ⟨rfl, by (repeat (first | exact Ext.refl _ | apply Ext.drew_left | apply Ext.drew | apply Ext.alloc | (refine Ext.setX ?_ (by simp))))⟩
theorem atN_take {l : List Al} {m : Nat} {n : Nm} (h : m < l.length) (h0 : atN n (l.take m) = none) : (¬ l[m].1 = n → atN n (l.take (m + 1)) = none) ∧ (l[m].1 = n → atN n l = some l[m].2) := by
  have h1 := atN_none.1 h0
  constructor
  · intro hne
    refine atN_none.2 fun x hx => ?_
    rw [List.take_succ_eq_append_getElem h] at hx
    rcases List.mem_append.1 hx with hx | hx
    · exact h1 x hx
    · rw [List.mem_singleton.1 hx]; exact hne
  · intro he
    have e : l = l.take m ++ l[m] :: l.drop (m + 1) := by rw [← List.drop_eq_getElem_cons h, List.take_append_drop]
    have h3 : (l.take m).find? (fun x => decide (x.1 = n)) = none := by
      rw [List.find?_eq_none]
      intro x hx
      simpa using h1 x hx
    unfold atN
    have h4 : (l.take m ++ l[m] :: l.drop (m + 1)).find? (fun x => decide (x.1 = n)) = some l[m] := by
      rw [List.find?_append, h3, List.find?_cons]
      simp only [he, decide_true, Option.none_or]
    rw [← e] at h4
    rw [h4]; rfl
theorem rtat_any {B : Nat} {w : World} {rb : Nat} {v : Value} {l : List Al} (h : RTm B w rb v l) (n : Nm) (hl : l.length ≤ 100000000000) :
    Calls Try.prog 54 #[.pointer (some ⟨rb, 0, none⟩), nmV n] w fun e w' => e = .returned (.tuple #[.int .i64 ((atN n l).getD 0), .bool (atN n l).isSome]) ∧ Ext w w' := by
  have h1 := h.c0
  have hrl := cell_lt h1
  obtain ⟨a, c, rfl, hlc, -, -, hcells⟩ := h.sl (by omega)
  have HC := hid_mk hcells
  have HL := hid_mk (And.intro hlc hl)
  obtain ⟨r, hr⟩ : ∃ r, atN n l = r := ⟨_, rfl⟩
  have HR := hid_mk hr
  obtain ⟨g1, hg1⟩ : ∃ g, r.getD 0 = g := ⟨_, rfl⟩
  obtain ⟨g2, hg2⟩ : ∃ g, r.isSome = g := ⟨_, rfl⟩
  rw [hr, hg1, hg2]
  have HG := hid_mk (And.intro hg1 hg2)
  clear h hcells hlc hl hr hg1 hg2
  go_enter Try.func54, Try.ntmps54
  go_wp2_with fail
  refine gen_code (fun W1 => NmAt W1 w.heap.size n ∧ Ext w W1) ⟨⟨by go_simp, by go_simp, by go_simp⟩, by (repeat (first | exact Ext.refl _ | apply Ext.drew_left | apply Ext.drew | apply Ext.alloc))⟩ ?_
  rintro W1 ⟨hb, hx1⟩
  have HB := hid_mk hb
  have HX1 := hid_mk hx1
  have HC1 := hid_mk (And.intro h1 hrl)
  clear hb hx1 h1 hrl
  go_loopw [6] (fun x wr => ∃ m : Nat, m ≤ l.length ∧ x = .int .i64 (m : Int) ∧ atN n (l.take m) = none ∧ Ext W1 wr) (fun x _ => l.length - (intOf x).toNat)
  case atStart => exact ⟨0, Nat.zero_le _, rfl, by simp [atN], Ext.refl _⟩
  case round =>
    obtain ⟨m, hm, rfl, hat, hx⟩ := hrel
    have HXR := hid_mk (Ext.trans _ _ _ HX1.out hx)
    obtain ⟨b0, b1, b2⟩ := HB.out.ext hx
    have hbl := cell_lt b0
    have h1 := cell_ext HXR.out HC1.out.1
    have hrl := cell_lt h1
    have HAT := hid_mk hat
    have HX := hid_mk hx
    clear hat hx
    by_cases hlt : m < l.length
    · obtain ⟨g, rfl, hcl⟩ := HC.out (by omega)
      obtain ⟨a0, a1, a2, a3⟩ := (hcl m hlt).ext HXR.out
      have hgl := cell_lt a0
      have HT := hid_mk (atN_take hlt HAT.out)
      obtain ⟨y, hy⟩ : ∃ y, l[m] = y := ⟨_, rfl⟩
      rw [hy] at a0 a1 a2 a3 HT
      have hm1 : (m : Int) < (l.length : Int) := by omega
      have hm0 : (0 : Int) ≤ (m : Int) := by omega
      have hw1 : wrap64 ((m : Int) + 1) = (m : Int) + 1 := w64in (by have := HL.out.2; omega)
      have HW1 := hid_mk hw1
      clear hcl hy hw1
      by_cases he : y.1 = n
      · obtain ⟨rfl, rfl⟩ : g1 = y.2 ∧ g2 = true := by
          have h1 := HT.out.2 he
          rw [HR.out] at h1
          subst h1
          exact ⟨HG.out.1.symm, HG.out.2.symm⟩
        go_wp2_with fail
        refine wp_region_held_below (fun _ => true) (.quiet 0 (.quiet 1 (.quiet 2 (.quiet 3 (.quiet 4 (.quiet 5 (.quiet 6 (.quiet 7 (.quiet 8 (.quiet 9 .done)))))))))) (by kernel_rfl) (by kernel_rfl) (by intro c a w d v h; cases d <;> exact h) (fun ops HO => ?_)
        refine plan_read _ (hi_of HO rfl) rfl (fun w' hE => by (repeat (with_reducible replace hE := Ext.unD hE)); have hcE := hE.hc; clear hE; go_simp; rfl) ?_
        simp only [Act.put, List.setIfInBounds_toArray, List.set_cons_succ, List.set_cons_zero]
        refine plan_read _ (hi_of HO rfl) rfl (fun w' hE => by (repeat (with_reducible replace hE := Ext.unD hE)); have hcE := hE.hc; clear hE; go_simp; rfl) ?_
        simp only [Act.put, List.setIfInBounds_toArray, List.set_cons_succ, List.set_cons_zero]
        refine plan_read _ (hi_of HO rfl) rfl (fun w' hE => by (repeat (with_reducible replace hE := Ext.unD hE)); have hcE := hE.hc; clear hE; go_simp; rfl) ?_
        simp only [Act.put, List.setIfInBounds_toArray, List.set_cons_succ, List.set_cons_zero]
        refine plan_read _ (hi_of HO rfl) rfl (fun w' hE => by (repeat (with_reducible replace hE := Ext.unD hE)); have hcE := hE.hc; clear hE; go_simp; rfl) ?_
        simp only [Act.put, List.setIfInBounds_toArray, List.set_cons_succ, List.set_cons_zero]
        refine plan_read _ (hi_of HO rfl) rfl (fun w' hE => by (repeat (with_reducible replace hE := Ext.unD hE)); have hcE := hE.hc; clear hE; go_simp; rfl) ?_
        simp only [Act.put, List.setIfInBounds_toArray, List.set_cons_succ, List.set_cons_zero]
        refine plan_read _ (hi_of HO rfl) rfl (fun w' hE => by (repeat (with_reducible replace hE := Ext.unD hE)); have hcE := hE.hc; clear hE; go_simp; rfl) ?_
        simp only [Act.put, List.setIfInBounds_toArray, List.set_cons_succ, List.set_cons_zero]
        refine plan_read _ (hi_of HO rfl) rfl (fun w' hE => by (repeat (with_reducible replace hE := Ext.unD hE)); have hcE := hE.hc; clear hE; go_simp; rfl) ?_
        simp only [Act.put, List.setIfInBounds_toArray, List.set_cons_succ, List.set_cons_zero]
        refine plan_read _ (hi_of HO rfl) rfl (fun w' hE => by (repeat (with_reducible replace hE := Ext.unD hE)); have hcE := hE.hc; clear hE; go_simp; rfl) ?_
        simp only [Act.put, List.setIfInBounds_toArray, List.set_cons_succ, List.set_cons_zero]
        refine plan_read _ (hi_of HO rfl) rfl (fun w' hE => by (repeat (with_reducible replace hE := Ext.unD hE)); have hcE := hE.hc; clear hE; go_simp; rfl) ?_
        simp only [Act.put, List.setIfInBounds_toArray, List.set_cons_succ, List.set_cons_zero]
        refine plan_read _ (hi_of HO rfl) rfl (fun w' hE => by (repeat (with_reducible replace hE := Ext.unD hE)); have hcE := hE.hc; clear hE; go_simp; rfl) ?_
        simp only [Act.put, List.setIfInBounds_toArray, List.set_cons_succ, List.set_cons_zero]
        refine plan_done ?fin102
        go_wp2
        refine bodyPost_ret (v := .tuple #[.int .i64 y.2, .bool true]) (by unfold results; rw [Try.results54]; go_simp) rfl ⟨rfl, by first | exact HXR.out | exact Ext.drew HXR.out⟩
      · have HE := hid_mk (HT.out.1 he)
        have hne : decide (y.1 = n) = false := decide_eq_false he
        go_wp2_with fail
        refine wp_region_held_below (fun _ => true) (.quiet 0 (.quiet 1 (.quiet 2 (.quiet 3 (.quiet 4 (.quiet 5 (.quiet 6 (.quiet 7 (.quiet 8 (.quiet 9 .done)))))))))) (by kernel_rfl) (by kernel_rfl) (by intro c a w d v h; cases d <;> exact h) (fun ops HO => ?_)
        refine plan_read _ (hi_of HO rfl) rfl (fun w' hE => by (repeat (with_reducible replace hE := Ext.unD hE)); have hcE := hE.hc; clear hE; go_simp; rfl) ?_
        simp only [Act.put, List.setIfInBounds_toArray, List.set_cons_succ, List.set_cons_zero]
        refine plan_read _ (hi_of HO rfl) rfl (fun w' hE => by (repeat (with_reducible replace hE := Ext.unD hE)); have hcE := hE.hc; clear hE; go_simp; rfl) ?_
        simp only [Act.put, List.setIfInBounds_toArray, List.set_cons_succ, List.set_cons_zero]
        refine plan_read _ (hi_of HO rfl) rfl (fun w' hE => by (repeat (with_reducible replace hE := Ext.unD hE)); have hcE := hE.hc; clear hE; go_simp; rfl) ?_
        simp only [Act.put, List.setIfInBounds_toArray, List.set_cons_succ, List.set_cons_zero]
        refine plan_read _ (hi_of HO rfl) rfl (fun w' hE => by (repeat (with_reducible replace hE := Ext.unD hE)); have hcE := hE.hc; clear hE; go_simp; rfl) ?_
        simp only [Act.put, List.setIfInBounds_toArray, List.set_cons_succ, List.set_cons_zero]
        refine plan_read _ (hi_of HO rfl) rfl (fun w' hE => by (repeat (with_reducible replace hE := Ext.unD hE)); have hcE := hE.hc; clear hE; go_simp; rfl) ?_
        simp only [Act.put, List.setIfInBounds_toArray, List.set_cons_succ, List.set_cons_zero]
        refine plan_read _ (hi_of HO rfl) rfl (fun w' hE => by (repeat (with_reducible replace hE := Ext.unD hE)); have hcE := hE.hc; clear hE; go_simp; rfl) ?_
        simp only [Act.put, List.setIfInBounds_toArray, List.set_cons_succ, List.set_cons_zero]
        refine plan_read _ (hi_of HO rfl) rfl (fun w' hE => by (repeat (with_reducible replace hE := Ext.unD hE)); have hcE := hE.hc; clear hE; go_simp; rfl) ?_
        simp only [Act.put, List.setIfInBounds_toArray, List.set_cons_succ, List.set_cons_zero]
        refine plan_read _ (hi_of HO rfl) rfl (fun w' hE => by (repeat (with_reducible replace hE := Ext.unD hE)); have hcE := hE.hc; clear hE; go_simp; rfl) ?_
        simp only [Act.put, List.setIfInBounds_toArray, List.set_cons_succ, List.set_cons_zero]
        refine plan_read _ (hi_of HO rfl) rfl (fun w' hE => by (repeat (with_reducible replace hE := Ext.unD hE)); have hcE := hE.hc; clear hE; go_simp; rfl) ?_
        simp only [Act.put, List.setIfInBounds_toArray, List.set_cons_succ, List.set_cons_zero]
        refine plan_read _ (hi_of HO rfl) rfl (fun w' hE => by (repeat (with_reducible replace hE := Ext.unD hE)); have hcE := hE.hc; clear hE; go_simp; rfl) ?_
        simp only [Act.put, List.setIfInBounds_toArray, List.set_cons_succ, List.set_cons_zero]
        refine plan_done ?fin103
        go_wp2
        go_roundw
        case rel => exact ⟨m + 1, Nat.succ_le_of_lt hlt, (by first | exact congrArg (Value.int .i64) HW1.out | rfl), HE.out, by first | exact HX.out | exact Ext.drew HX.out⟩
        case measure => (try simp only [HW1.out]); simp [intOf]; first | done | omega
    · obtain rfl : m = l.length := by omega
      rw [List.take_length] at HAT
      obtain ⟨rfl, rfl⟩ : g1 = 0 ∧ g2 = false := by
        have h1 := HAT.out
        rw [HR.out] at h1
        subst h1
        exact ⟨HG.out.1.symm, HG.out.2.symm⟩
      have hmm : ¬ ((l.length : Nat) : Int) < (l.length : Int) := by omega
      go_wp2
      refine bodyPost_ret (v := .tuple #[.int .i64 0, .bool false]) (by unfold results; rw [Try.results54]; go_simp) rfl ⟨rfl, by first | exact HXR.out | exact Ext.drew HXR.out⟩
end Go.Proofs.Ytiimoaplhhnklaa
