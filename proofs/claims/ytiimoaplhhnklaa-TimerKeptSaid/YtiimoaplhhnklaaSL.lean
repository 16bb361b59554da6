/- The document's timers in memory: without, Drop, Set, Due. -/
import Derived.Test.YtiimoaplhhnklaaSK
namespace Go.Proofs.Ytiimoaplhhnklaa
open Go.RowKit
set_option maxHeartbeats 4000000
set_option maxRecDepth 100000
set_option linter.unusedSimpArgs false
set_option linter.unusedVariables false
attribute [local go_sem ↓] neq_nm eql_nm
attribute [-go_sem] Builtin.append_

theorem ra_info : ∃ i z, Try.prog.info? 82 = some i ∧ i.size = 4 ∧ i.bytes = 32 ∧ i.zero = some z ∧ z.cells = #[.int .i64 0, .int .i64 0, .int .i64 0, .int .i64 0] := ⟨_, _, rfl, rfl, rfl, rfl, rfl⟩
theorem append_one {w : World} {B b c : Nat} {v : Value} {l : List Al} {x : Al} (hown : OwnA w B 82 v l) (hx : AlAt w b 0 x) (hl : l.length + 1 ≤ 1000000000000) (hB : B ≤ w.heap.size) :
    ∃ v' w', (Builtin.append_ #[75, 75] 75 #[v, .slice (some ⟨b, 0, none⟩) 1 c]).run Try.prog w = .ok v' w' ∧ OwnA w' B 82 v' (l ++ [x]) ∧ w.grownBy w' v.ownBlock := by
  obtain ⟨i0, z, hinf, hs, hby, hz, hcc⟩ := ra_info
  obtain ⟨v', w', h1, h2, h3, -, -⟩ := run_append_own_at (P := Try.prog) w B 75 75 82 i0 z 4 32 Try.underlying75 hinf hz hs hby (by rw [hcc]; rfl) (by omega) v l.length (l.flatMap cA) hown ⟨b, 0, none⟩ 1 c (cA x) rfl
    (fun j u hj => by
      rw [radd_flat, Nat.zero_add]
      obtain ⟨c0, c1, c2, c3⟩ := hx
      simp only [Nat.zero_add] at c0 c1 c2 c3
      rcases j with _ | _ | _ | _ | j <;> simp [cA] at hj <;> subst hj <;> assumption) (by intro u hu; exact cA_one [x] u (by simpa using hu)) (by unfold maxLen; omega) (by omega) hB
  refine ⟨v', w', h1, ?_, h3⟩
  unfold OwnA
  rw [List.length_append, List.flatMap_append]
  simpa using h2
/-- Alarms from some place on. -/
def AlsO (w : World) (b o : Nat) (L : List Al) : Prop := ∀ i, (h : i < L.length) → AlAt w b (o + i * 4) L[i]
theorem AlsO.ext {w w' : World} {b o : Nat} {L : List Al} (h : AlsO w b o L) (hx : Ext w w') : AlsO w' b o L := fun i hi => (h i hi).ext hx
theorem append_some {w : World} {B b o c : Nat} {v : Value} {M L : List Al} (hown : OwnA w B 82 v M) (hx : AlsO w b o L) (hl : M.length + L.length ≤ 1000000000000) (hB : B ≤ w.heap.size) :
    ∃ v' w', (Builtin.append_ #[75, 75] 75 #[v, .slice (some ⟨b, o, none⟩) L.length c]).run Try.prog w = .ok v' w' ∧ OwnA w' B 82 v' (M ++ L) ∧ w.grownBy w' v.ownBlock := by
  obtain ⟨i0, z, hinf, hs, hby, hz, hcc⟩ := ra_info
  obtain ⟨v', w', h1, h2, h3, -, -⟩ := run_append_own_at (P := Try.prog) w B 75 75 82 i0 z 4 32 Try.underlying75 hinf hz hs hby (by rw [hcc]; rfl) (by omega) v M.length (M.flatMap cA) hown ⟨b, o, none⟩ L.length c (L.flatMap cA) (flatA_len L)
    (fun j u hj => by
      have hjl : j < L.length * 4 := by
        rw [← flatA_len L]
        exact (List.getElem?_eq_some_iff.1 hj).1
      obtain ⟨g0, g1, g2, g3⟩ := hx (j / 4) (by omega)
      have e1 : j = j / 4 * 4 + j % 4 := by omega
      have h5 := flat_get cA 4 (by omega) cA_len L (j / 4) (by omega) (j % 4) (by omega)
      rw [← e1, hj] at h5
      rw [radd_flat]
      have h6 : j % 4 = 0 ∨ j % 4 = 1 ∨ j % 4 = 2 ∨ j % 4 = 3 := by omega
      rcases h6 with h6 | h6 | h6 | h6 <;> rw [h6] at h5 e1 <;> simp [cA] at h5 <;> subst h5
      · rw [show o + j = o + j / 4 * 4 by omega]; exact g0
      · rw [show o + j = o + j / 4 * 4 + 1 by omega]; exact g1
      · rw [show o + j = o + j / 4 * 4 + 2 by omega]; exact g2
      · rw [show o + j = o + j / 4 * 4 + 3 by omega]; exact g3)
    (cA_one L) (by unfold maxLen; omega) (by omega) hB
  refine ⟨v', w', h1, ?_, h3⟩
  unfold OwnA
  rw [List.length_append, List.flatMap_append]
  exact h2
theorem OwnA.lower {w : World} {B B' : Nat} {ty : TypeId} {v : Value} {l : List Al} (h : OwnA w B ty v l) (hB : B' ≤ B) : OwnA w B' ty v l :=
  ⟨h.1, h.2.imp id (fun ⟨g, cap, cur, e1, e2, e3⟩ => ⟨g, cap, cur, e1, Nat.le_trans hB e2, e3⟩)⟩
theorem own_empty {w : World} {B g : Nat} (hg : w.heap[g]? = some (.cells #[] 82 (0, 0))) (hB : B ≤ g) : OwnA w B 82 (.slice (some ⟨g, 0, none⟩) 0 0) [] :=
  ⟨rfl, .inr ⟨g, 0, #[], rfl, hB, hg, Nat.le_refl _, by unfold maxLen; omega, rfl, rfl⟩⟩
theorem del_take {l : List Al} {m : Nat} {n : Nm} (h : m < l.length) : del n (l.take (m + 1)) = if l[m].1 = n then del n (l.take m) else del n (l.take m) ++ [l[m]] := by
  rw [List.take_succ_eq_append_getElem h]
  unfold del
  rw [List.filter_append]
  by_cases e : l[m].1 = n
  · rw [if_pos e]; simp [List.filter_cons, e]
  · rw [if_neg e]; simp [List.filter_cons, e]
/-- It points somewhere. -/
def SomeSl (v : Value) : Prop := ∃ g n c, v = .slice (some ⟨g, 0, none⟩) n c
theorem own_some {w : World} {B : Nat} {ty : TypeId} {v : Value} {l : List Al} (h : OwnA w B ty v l) (hp : 0 < l.length) : SomeSl v := by
  rcases h.2 with ⟨e1, e2⟩ | ⟨g, cap, cur, e1, -⟩
  · omega
  · exact ⟨g, _, cap, e1⟩
theorem without_any {B : Nat} {w : World} {rb : Nat} {v : Value} {l : List Al} (h : RTm B w rb v l) (n : Nm) (hl : l.length ≤ 100000000000) :
    Calls Try.prog 70 #[.pointer (some ⟨rb, 0, none⟩), nmV n] w fun e w' => ∃ v', e = .returned v' ∧ OwnA w' w.heap.size 82 v' (del n l) ∧ SomeSl v' ∧ Ext w w' := by
  have h1 := h.c0
  have hrl := cell_lt h1
  obtain ⟨a, c, rfl, hlc, -, -, hcells⟩ := h.sl (by omega)
  have HC := hid_mk hcells
  have HL := hid_mk (And.intro hlc hl)
  have HC1 := hid_mk (And.intro h1 hrl)
  clear h hcells hlc hl h1 hrl
  go_enter Try.func70, Try.ntmps70
  go_wp2_with fail
  refine gen_code (fun W1 => NmAt W1 w.heap.size n ∧ OwnA W1 (w.heap.size + 1) 82 (.slice (some ⟨w.heap.size + 1, 0, none⟩) 0 0) [] ∧ Ext w W1) ⟨⟨by go_simp, by go_simp, by go_simp⟩, own_empty (by
    have h9 := heap_alloc_new (w.alloc (.cells #[.int .i64 n.1, .int .i64 n.2.1, .int .i64 n.2.2] 54)) (.cells #[] 82)
    rwa [show (w.alloc (.cells #[.int .i64 n.1, .int .i64 n.2.1, .int .i64 n.2.2] 54)).heap.size = w.heap.size + 1 by simp] at h9) (Nat.le_refl _), by (repeat (first | exact Ext.refl _ | apply Ext.drew_left | apply Ext.drew | apply Ext.alloc))⟩ ?_
  rintro W1 ⟨hb, ho1, hx1⟩
  have HB := hid_mk hb
  have HX1 := hid_mk hx1
  have HO1 := hid_mk ho1
  clear hb ho1 hx1
  go_loopw [5, 6] (fun z x wr => ∃ m : Nat, m ≤ l.length ∧ x = .int .i64 (m : Int) ∧ OwnA wr (w.heap.size + 1) 82 z (del n (l.take m)) ∧ SomeSl z ∧ Ext w wr ∧ NmAt wr w.heap.size n) (fun _ x _ => l.length - (intOf x).toNat)
  case atStart => exact ⟨0, Nat.zero_le _, rfl, HO1.out, ⟨_, _, _, rfl⟩, HX1.out, HB.out⟩
  case round =>
    clear HO1 HX1 HB
    obtain ⟨m, hm, rfl, ho, hss, hx, hb⟩ := hrel
    have HSS := hid_mk hss
    clear hss
    have HOW := hid_mk ho
    have HX := hid_mk hx
    have HB := hid_mk hb
    obtain ⟨b0, b1, b2⟩ := hb
    have hbl := cell_lt b0
    have h1 := cell_ext hx HC1.out.1
    have hrl := cell_lt h1
    have hdl := del_len_le n (l.take m)
    have HDL := hid_mk (show (del n (l.take m)).length ≤ m by rw [List.length_take] at hdl; omega)
    obtain ⟨oa, oc, rfl⟩ := own_form ho
    clear ho hx hdl
    by_cases hlt : m < l.length
    · obtain ⟨g, rfl, hcl⟩ := HC.out (by omega)
      obtain ⟨a0, a1, a2, a3⟩ := (hcl m hlt).ext HX.out
      have hgl := cell_lt a0
      have HT := hid_mk (del_take (n := n) hlt)
      obtain ⟨y, hy⟩ : ∃ y, l[m] = y := ⟨_, rfl⟩
      rw [hy] at a0 a1 a2 a3 HT
      have HY := hid_mk hy
      have hm1 : (m : Int) < (l.length : Int) := by omega
      have hm0 : (0 : Int) ≤ (m : Int) := by omega
      have hw1 : wrap64 ((m : Int) + 1) = (m : Int) + 1 := w64in (by have := HL.out.2; omega)
      have HW1 := hid_mk hw1
      clear hcl hy hw1
      by_cases he : y.1 = n
      · have HE := hid_mk (show del n (l.take (m + 1)) = del n (l.take m) by rw [HT.out, if_pos he])
        go_wp2_with fail
        refine wp_region_held_below (fun _ => true) (.quiet 0 (.quiet 1 (.quiet 2 (.quiet 3 (.quiet 4 (.quiet 5 (.quiet 6 (.quiet 7 (.quiet 8 (.quiet 9 .done)))))))))) (by kernel_rfl) (by kernel_rfl) (by intro c a w d v h; cases d <;> exact h) (fun ops HO => ?_)
        refine plan_read _ (hi_of HO rfl) rfl (fun w' hE => by (repeat (with_reducible replace hE := Ext.unD hE)); have hcE := hE.hc; clear hE; go_simp; rfl) ?_
        simp only [Act.put, List.setIfInBounds_toArray, List.set_cons_succ, List.set_cons_zero]
        refine plan_read _ (hi_of HO rfl) rfl (fun w' hE => by (repeat (with_reducible replace hE := Ext.unD hE)); have hcE := hE.hc; clear hE; go_simp; rfl) ?_
        simp only [Act.put, List.setIfInBounds_toArray, List.set_cons_succ, List.set_cons_zero]
        refine plan_read _ (hi_of HO rfl) rfl (fun w' hE => by (repeat (with_reducible replace hE := Ext.unD hE)); have hcE := hE.hc; clear hE; go_simp; rfl) ?_
        simp only [Act.put, List.setIfInBounds_toArray, List.set_cons_succ, List.set_cons_zero]
        refine plan_read _ (hi_of HO rfl) rfl (fun w' hE => by (repeat (with_reducible replace hE := Ext.unD hE)); have hcE := hE.hc; clear hE; go_simp; rfl) ?_
        simp only [Act.put, List.setIfInBounds_toArray, List.set_cons_succ, List.set_cons_zero]
        refine plan_read _ (hi_of HO rfl) rfl (fun w' hE => by (repeat (with_reducible replace hE := Ext.unD hE)); have hcE := hE.hc; clear hE; go_simp; rfl) ?_
        simp only [Act.put, List.setIfInBounds_toArray, List.set_cons_succ, List.set_cons_zero]
        refine plan_read _ (hi_of HO rfl) rfl (fun w' hE => by (repeat (with_reducible replace hE := Ext.unD hE)); have hcE := hE.hc; clear hE; go_simp; rfl) ?_
        simp only [Act.put, List.setIfInBounds_toArray, List.set_cons_succ, List.set_cons_zero]
        refine plan_read _ (hi_of HO rfl) rfl (fun w' hE => by (repeat (with_reducible replace hE := Ext.unD hE)); have hcE := hE.hc; clear hE; go_simp; rfl) ?_
        simp only [Act.put, List.setIfInBounds_toArray, List.set_cons_succ, List.set_cons_zero]
        refine plan_read _ (hi_of HO rfl) rfl (fun w' hE => by (repeat (with_reducible replace hE := Ext.unD hE)); have hcE := hE.hc; clear hE; go_simp; rfl) ?_
        simp only [Act.put, List.setIfInBounds_toArray, List.set_cons_succ, List.set_cons_zero]
        refine plan_read _ (hi_of HO rfl) rfl (fun w' hE => by (repeat (with_reducible replace hE := Ext.unD hE)); have hcE := hE.hc; clear hE; go_simp; rfl) ?_
        simp only [Act.put, List.setIfInBounds_toArray, List.set_cons_succ, List.set_cons_zero]
        refine plan_read _ (hi_of HO rfl) rfl (fun w' hE => by (repeat (with_reducible replace hE := Ext.unD hE)); have hcE := hE.hc; clear hE; go_simp; rfl) ?_
        simp only [Act.put, List.setIfInBounds_toArray, List.set_cons_succ, List.set_cons_zero]
        refine plan_done ?fin101
        go_wp2
        go_roundw
        case rel => exact ⟨m + 1, Nat.succ_le_of_lt hlt, (by first | exact congrArg (Value.int .i64) HW1.out | rfl), by rw [HE.out]; exact HOW.out, HSS.out, by first | exact HX.out | exact Ext.drew HX.out, by first | exact HB.out | exact HB.out.ext ((Ext.refl _).drew)⟩
        case measure => (try simp only [HW1.out]); simp [intOf]; first | done | omega
      · have HE := hid_mk (show del n (l.take (m + 1)) = del n (l.take m) ++ [y] by rw [HT.out, if_neg he])
        have hne : decide (y.1 = n) = false := decide_eq_false he
        go_wp2_with fail
        refine wp_region_held_below (fun _ => true) (.quiet 0 (.quiet 1 (.quiet 2 (.quiet 3 (.quiet 4 (.quiet 5 (.quiet 6 (.quiet 7 (.quiet 8 (.quiet 9 .done)))))))))) (by kernel_rfl) (by kernel_rfl) (by intro c a w d v h; cases d <;> exact h) (fun ops HO => ?_)
        refine plan_read _ (hi_of HO rfl) rfl (fun w' hE => by (repeat (with_reducible replace hE := Ext.unD hE)); have hcE := hE.hc; clear hE; go_simp; rfl) ?_
        simp only [Act.put, List.setIfInBounds_toArray, List.set_cons_succ, List.set_cons_zero]
        refine plan_read _ (hi_of HO rfl) rfl (fun w' hE => by (repeat (with_reducible replace hE := Ext.unD hE)); have hcE := hE.hc; clear hE; go_simp; rfl) ?_
        simp only [Act.put, List.setIfInBounds_toArray, List.set_cons_succ, List.set_cons_zero]
        refine plan_read _ (hi_of HO rfl) rfl (fun w' hE => by (repeat (with_reducible replace hE := Ext.unD hE)); have hcE := hE.hc; clear hE; go_simp; rfl) ?_
        simp only [Act.put, List.setIfInBounds_toArray, List.set_cons_succ, List.set_cons_zero]
        refine plan_read _ (hi_of HO rfl) rfl (fun w' hE => by (repeat (with_reducible replace hE := Ext.unD hE)); have hcE := hE.hc; clear hE; go_simp; rfl) ?_
        simp only [Act.put, List.setIfInBounds_toArray, List.set_cons_succ, List.set_cons_zero]
        refine plan_read _ (hi_of HO rfl) rfl (fun w' hE => by (repeat (with_reducible replace hE := Ext.unD hE)); have hcE := hE.hc; clear hE; go_simp; rfl) ?_
        simp only [Act.put, List.setIfInBounds_toArray, List.set_cons_succ, List.set_cons_zero]
        refine plan_read _ (hi_of HO rfl) rfl (fun w' hE => by (repeat (with_reducible replace hE := Ext.unD hE)); have hcE := hE.hc; clear hE; go_simp; rfl) ?_
        simp only [Act.put, List.setIfInBounds_toArray, List.set_cons_succ, List.set_cons_zero]
        refine plan_read _ (hi_of HO rfl) rfl (fun w' hE => by (repeat (with_reducible replace hE := Ext.unD hE)); have hcE := hE.hc; clear hE; go_simp; rfl) ?_
        simp only [Act.put, List.setIfInBounds_toArray, List.set_cons_succ, List.set_cons_zero]
        refine plan_read _ (hi_of HO rfl) rfl (fun w' hE => by (repeat (with_reducible replace hE := Ext.unD hE)); have hcE := hE.hc; clear hE; go_simp; rfl) ?_
        simp only [Act.put, List.setIfInBounds_toArray, List.set_cons_succ, List.set_cons_zero]
        refine plan_read _ (hi_of HO rfl) rfl (fun w' hE => by (repeat (with_reducible replace hE := Ext.unD hE)); have hcE := hE.hc; clear hE; go_simp; rfl) ?_
        simp only [Act.put, List.setIfInBounds_toArray, List.set_cons_succ, List.set_cons_zero]
        refine plan_read _ (hi_of HO rfl) rfl (fun w' hE => by (repeat (with_reducible replace hE := Ext.unD hE)); have hcE := hE.hc; clear hE; go_simp; rfl) ?_
        simp only [Act.put, List.setIfInBounds_toArray, List.set_cons_succ, List.set_cons_zero]
        refine plan_done ?fin102
        refine gen_world (P := Try.prog) (fun W5 => Ext wr W5) (by first | exact (Ext.refl _).drew | exact Ext.refl _) ?_
        intro W5 hx5
        replace h1 := cell_ext hx5 h1
        replace hrl := cell_lt h1
        replace a0 := cell_ext hx5 a0
        replace a1 := cell_ext hx5 a1
        replace a2 := cell_ext hx5 a2
        replace a3 := cell_ext hx5 a3
        replace hgl := cell_lt a0
        obtain ⟨v', W6, hrun, ho6, hg6⟩ := append_one (w := W5.alloc (.cells #[.int .i64 y.1.1, .int .i64 y.1.2.1, .int .i64 y.1.2.2, .int .i64 y.2] 82)) (c := 1) (own_ext (own_ext HOW.out hx5) ((Ext.refl W5).alloc _)) (b := W5.heap.size) (x := y) ⟨newc rfl, newc rfl, newc rfl, newc rfl⟩ (by have := HDL.out; have := HL.out.2; omega) (by have := hbl; have := hx5.below.size; simp; omega)
        have hx6 : Ext w W6 := ext_grown (Ext.trans _ _ _ HX.out (Ext.trans _ _ _ hx5 ((Ext.refl W5).alloc _))) hg6 (own_ext (own_ext HOW.out hx5) ((Ext.refl W5).alloc _)) (Nat.le_succ _)
        have hb6 : NmAt W6 w.heap.size n := (((HB.out.ext hx5).ext ((Ext.refl W5).alloc _)).xl (xl_grownBy hg6) (by
          intro hm
          have := (World.ownsRow.lt HOW.out w.heap.size (by simpa using hm)).1
          omega))
        have HO6 := hid_mk ho6
        have hss6 := own_some ho6 (by simp)
        have HX6 := hid_mk hx6
        have HB6 := hid_mk hb6
        obtain ⟨oa6, oc6, rfl⟩ := own_form ho6
        rw [show (del n (l.take m) ++ [y]).length = (del n (l.take m)).length + 1 by simp] at HO6 hss6
        have HSS6 := hid_mk hss6
        clear hss6
        clear ho6 hx6 hb6 hg6 hx5
        go_wp2
        go_roundw
        case rel => exact ⟨m + 1, Nat.succ_le_of_lt hlt, (by first | exact congrArg (Value.int .i64) HW1.out | rfl), by rw [HE.out]; exact HO6.out, HSS6.out, HX6.out, HB6.out⟩
        case measure => (try simp only [HW1.out]); simp [intOf]; first | done | omega
    · obtain rfl : m = l.length := by omega
      rw [List.take_length] at HOW HSS ⊢
      have hmm : ¬ ((l.length : Nat) : Int) < (l.length : Int) := by omega
      go_wp2
      go_ret
      exact ⟨_, rfl, OwnA.lower HOW.out (Nat.le_succ _), HSS.out, HX.out⟩
/-- What becomes of a document's timer that is written. -/
def RPost (B : Nat) (w : World) (rb : Nat) (v : Value) (l' : List Al) (w' : World) : Prop :=
  ∃ v', RTm B w' rb v' l' ∧ Xl [rb] w w' ∧ (v'.ownBlock = v.ownBlock ∨ ∀ g, v'.ownBlock = some g → w.heap.size ≤ g)
theorem rpost_ext {B : Nat} {w w' : World} {rb : Nat} {v : Value} {l : List Al} (h : RTm B w rb v l) (hx : Ext w w') : RPost B w rb v l w' := ⟨v, h.ext hx, Xl.of hx, .inl rfl⟩
theorem rblk_set {w : World} {rb : Nat} {v v' : Value} (h : w.heap[rb]? = some (.cells #[v] 77 (0, 0))) : (w.setCell ⟨rb, 0, none⟩ v').heap[rb]? = some (.cells #[v'] 77 (0, 0)) := by
  rw [heap_setCell_same w rb 0 #[v] 77 v' h]
  rfl
/-- A new row is stored into a document's timer. -/
theorem RTm.store {B : Nat} {w w1 : World} {rb : Nat} {v v' : Value} {l l' : List Al} (h : RTm B w rb v l) (hx : Ext w w1) (ho : OwnA w1 w.heap.size 82 v' l') : RPost B w rb v l' (w1.setCell ⟨rb, 0, none⟩ v') := by
  have hb1 := (hx.below.block rb h.lt.1).trans h.blk
  refine ⟨v', ⟨rblk_set hb1, OwnA.lower (xl_grown (L := [rb]) ((Xl.refl w1).set (by simp)) (fun g hg hm => ?_) ho) h.lo.2, ⟨h.lo.1, Nat.le_trans h.lo.2 (Nat.le_trans hx.below.size (by simp))⟩⟩, Xl.trans _ _ _ (Xl.of hx) ((Xl.refl w1).set (by simp)), .inr (fun g hg => (World.ownsRow.lt ho g hg).1)⟩
  have := (World.ownsRow.lt ho g hg).1
  have := h.lt.1
  simp at hm
  omega
theorem del_lt {n : Nm} {l : List Al} : decide ((del n l).length < l.length) = (atN n l).isSome := by
  cases ha : atN n l with
  | none => rw [del_none ha]; simp
  | some t =>
    have hm := atN_mem ha
    have : (del n l).length < l.length := by
      unfold del
      rw [← List.countP_eq_length_filter]
      have h1 := List.length_eq_countP_add_countP (fun x : Al => decide (x.1 ≠ n)) (l := l)
      have h2 : 0 < l.countP (fun x => ¬ decide (x.1 ≠ n) = true) := List.countP_pos_iff.2 ⟨(n, t), hm, by simp⟩
      omega
    simp [this]
theorem rdrop_any {B : Nat} {w : World} {rb : Nat} {v : Value} {l : List Al} (h : RTm B w rb v l) (n : Nm) (hl : l.length ≤ 100000000000) :
    Calls Try.prog 53 #[.pointer (some ⟨rb, 0, none⟩), nmV n] w fun e w' => e = .returned (.bool (atN n l).isSome) ∧ RPost B w rb v (del n l) w' := by
  have H := hid_mk h
  have HLEN := hid_mk hl
  have HDL := hid_mk (del_lt (n := n) (l := l))
  obtain ⟨va, vc, rfl⟩ := own_form h.own
  obtain ⟨r, hr⟩ : ∃ r, (atN n l).isSome = r := ⟨_, rfl⟩
  have HR := hid_mk hr
  rw [hr]
  clear h hr
  go_enter Try.func53, Try.ntmps53
  go_wp2_with fail
  refine (without_any (H.out.ext (by (repeat (first | exact Ext.refl _ | apply Ext.drew_left | apply Ext.drew | apply Ext.alloc)))) n hl).mono ?_
  rintro e w1 ⟨v1, rfl, ho, -, hx⟩
  have HX := hid_mk (Ext.trans w _ _ (by (repeat (first | exact Ext.refl _ | apply Ext.drew_left | apply Ext.drew | apply Ext.alloc))) hx)
  have HOW := hid_mk (show OwnA w1 w.heap.size 82 v1 (del n l) from OwnA.lower ho (by simp))
  obtain ⟨v1a, v1c, rfl⟩ := own_form ho
  have h1 := (H.out.ext HX.out).c0
  have f1 := (H.out.ext HX.out).f0
  have hrl := cell_lt h1
  clear ho hx
  have HP : Hid (RPost B w rb (.slice va l.length vc) (del n l) (w1.setCell ⟨rb, 0, none⟩ (.slice v1a (del n l).length v1c))) := hid_mk (H.out.store HX.out HOW.out)
  go_wp2
  go_ret
  exact ⟨ret_bool (HDL.out.trans HR.out), HP.out⟩
/-- Due: the alarms up to a time. -/
def dueA (t : Int) (l : List Al) : List Al := l.takeWhile fun x => decide (x.2 ≤ t)
theorem tw_all {α : Type} {p : α → Bool} : ∀ {l : List α} {x : α}, x ∈ l.takeWhile p → p x = true
  | [], _, h => by cases h
  | a :: l, x, h => by
    rw [List.takeWhile_cons] at h
    split at h
    · rename_i ha
      rcases List.mem_cons.1 h with rfl | h
      · exact ha
      · exact tw_all h
    · cases h
theorem tw_self {α : Type} {p : α → Bool} : ∀ {l : List α}, (∀ x ∈ l, p x = true) → l.takeWhile p = l
  | [], _ => rfl
  | a :: l, h => by rw [List.takeWhile_cons, if_pos (h a (by simp)), tw_self (fun x hx => h x (by simp [hx]))]
theorem due_take {t : Int} {l : List Al} {m : Nat} (h : m < l.length) (h0 : dueA t (l.take m) = l.take m) : (l[m].2 ≤ t → dueA t (l.take (m + 1)) = l.take (m + 1)) ∧ (¬ l[m].2 ≤ t → dueA t l = l.take m) := by
  have hall : ∀ x ∈ l.take m, decide (x.2 ≤ t) = true := fun x hx => by
    rw [← h0] at hx
    exact tw_all (p := fun x : Al => decide (x.2 ≤ t)) hx
  constructor
  · intro hle
    unfold dueA
    rw [List.take_succ_eq_append_getElem h]
    refine tw_self fun x hx => ?_
    rcases List.mem_append.1 hx with hx | hx
    · exact hall x hx
    · rw [List.mem_singleton.1 hx]; simpa using hle
  · intro hle
    have e : l = l.take m ++ l[m] :: l.drop (m + 1) := by rw [← List.drop_eq_getElem_cons h, List.take_append_drop]
    have h1 : (l.take m ++ l[m] :: l.drop (m + 1)).takeWhile (fun x => decide (x.2 ≤ t)) = l.take m := by
      rw [List.takeWhile_append_of_pos hall, List.takeWhile_cons, if_neg (by simpa using hle), List.append_nil]
    rw [← e] at h1
    exact h1
theorem rdue_any {B : Nat} {w : World} {rb : Nat} {v : Value} {l : List Al} (h : RTm B w rb v l) (t : Int) (hl : l.length ≤ 100000000000) :
    Calls Try.prog 32 #[.pointer (some ⟨rb, 0, none⟩), .int .i64 t] w fun e w' => ∃ v', e = .returned v' ∧ OwnA w' w.heap.size 82 v' (dueA t l) ∧ Ext w w' := by
  have h1 := h.c0
  have hrl := cell_lt h1
  obtain ⟨a, c, rfl, hlc, -, -, hcells⟩ := h.sl (by omega)
  have HC := hid_mk hcells
  have HL := hid_mk (And.intro hlc hl)
  have HC1 := hid_mk (And.intro h1 hrl)
  obtain ⟨D, hD⟩ : ∃ D, dueA t l = D := ⟨_, rfl⟩
  have HD := hid_mk hD
  rw [hD]
  clear h hcells hlc hl h1 hrl hD
  go_enter Try.func32, Try.ntmps32
  go_wp2_with fail
  refine gen_code (fun W1 => OwnA W1 w.heap.size 82 (.slice (some ⟨w.heap.size, 0, none⟩) 0 0) [] ∧ Ext w W1) ⟨own_empty (heap_alloc_new w _) (Nat.le_refl _), by (repeat (first | exact Ext.refl _ | apply Ext.drew_left | apply Ext.drew | apply Ext.alloc))⟩ ?_
  rintro W1 ⟨ho1, hx1⟩
  have HX1 := hid_mk hx1
  have HO1 := hid_mk ho1
  clear ho1 hx1
  go_loopw [5, 6] (fun z x wr => ∃ m : Nat, m ≤ l.length ∧ x = .int .i64 (m : Int) ∧ OwnA wr w.heap.size 82 z (l.take m) ∧ dueA t (l.take m) = l.take m ∧ Ext w wr) (fun _ x _ => l.length - (intOf x).toNat)
  case atStart => exact ⟨0, Nat.zero_le _, rfl, HO1.out, rfl, HX1.out⟩
  case round =>
    clear HO1 HX1
    obtain ⟨m, hm, rfl, ho, hdue, hx⟩ := hrel
    have HOW := hid_mk ho
    have HX := hid_mk hx
    have HDU := hid_mk hdue
    have h1 := cell_ext hx HC1.out.1
    have hrl := cell_lt h1
    have HTL := hid_mk (show (l.take m).length = m by rw [List.length_take]; omega)
    obtain ⟨oa, oc, rfl⟩ := own_form ho
    clear ho hx hdue
    by_cases hlt : m < l.length
    · obtain ⟨g, rfl, hcl⟩ := HC.out (by omega)
      obtain ⟨a0, a1, a2, a3⟩ := (hcl m hlt).ext HX.out
      have hgl := cell_lt a0
      have HT := hid_mk (due_take hlt HDU.out)
      have HTS := hid_mk (List.take_succ_eq_append_getElem hlt)
      obtain ⟨y, hy⟩ : ∃ y, l[m] = y := ⟨_, rfl⟩
      rw [hy] at a0 a1 a2 a3 HT HTS
      have hm1 : (m : Int) < (l.length : Int) := by omega
      have hm0 : (0 : Int) ≤ (m : Int) := by omega
      have hw1 : wrap64 ((m : Int) + 1) = (m : Int) + 1 := w64in (by have := HL.out.2; omega)
      have HW1 := hid_mk hw1
      clear hcl hy hw1
      by_cases he : y.2 ≤ t
      · have HE := hid_mk (HT.out.1 he)
        obtain ⟨v', W6, hrun, ho6, hg6⟩ := append_one (w := wr.alloc (.cells #[.int .i64 y.1.1, .int .i64 y.1.2.1, .int .i64 y.1.2.2, .int .i64 y.2] 82)) (c := 1) (own_ext HOW.out ((Ext.refl wr).alloc _)) (b := wr.heap.size) (x := y) ⟨newc rfl, newc rfl, newc rfl, newc rfl⟩ (by have := HTL.out; have := HL.out.2; omega) (by have := HX.out.below.size; simp; omega)
        have HX6 := hid_mk (show Ext w W6 from ext_grown (Ext.trans _ _ _ HX.out ((Ext.refl wr).alloc _)) hg6 (own_ext HOW.out ((Ext.refl wr).alloc _)) (Nat.le_refl _))
        have HO6 := hid_mk ho6
        obtain ⟨oa6, oc6, rfl⟩ := own_form ho6
        rw [← HTS.out] at HO6 hrun
        have hl6 : (l.take (m + 1)).length = m + 1 := by rw [List.length_take]; omega
        rw [hl6] at HO6 hrun
        rw [HTL.out] at hrun ⊢
        clear ho6 hg6 hl6
        go_wp2
        go_roundw
        case rel => exact ⟨m + 1, Nat.succ_le_of_lt hlt, (by first | exact congrArg (Value.int .i64) HW1.out | rfl), HO6.out, HE.out, HX6.out⟩
        case measure => (try simp only [HW1.out]); simp [intOf]; first | done | omega
      · have hd := HT.out.2 he
        rw [HD.out] at hd
        subst hd
        have hq := HOW.out
        rw [HTL.out] at hq
        have HQ := hid_mk hq
        clear hq
        go_wp2
        go_ret
        exact ⟨_, rfl, HQ.out, HX.out⟩
    · obtain rfl : m = l.length := by omega
      have hd : l = D := by rw [← HD.out]; have := HDU.out; rw [List.take_length] at this; exact this.symm
      subst hd
      have hmm : ¬ ((l.length : Nat) : Int) < (l.length : Int) := by omega
      have hq := HOW.out
      rw [HTL.out] at hq
      have HQ := hid_mk hq
      clear hq
      rw [HTL.out]
      rw [List.take_length] at HQ
      go_wp2
      go_ret
      exact ⟨_, rfl, HQ.out, HX.out⟩
end Go.Proofs.Ytiimoaplhhnklaa
