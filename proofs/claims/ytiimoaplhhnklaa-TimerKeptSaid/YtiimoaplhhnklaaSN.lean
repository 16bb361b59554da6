/- Timers: Due of the program, and what its iterator gives. -/
import Derived.Test.YtiimoaplhhnklaaSM
import Derived.RangeFuncNested
import Derived.RangeFuncBound
import Derived.RangeFuncCalls
import Derived.RangeFuncLeaves
import Derived.Shelf.Abstract
import Derived.Shelf.RegionOpen
import Derived.WalkKit
import Derived.OwnWalkIn
import Derived.TacticsInMore
import Derived.RegionIn
import Derived.LoopNIn
import Derived.LoopIn
namespace Go.Proofs.Ytiimoaplhhnklaa
open Go.RowKit Go.Shelf
set_option maxHeartbeats 4000000
set_option maxRecDepth 100000
set_option linter.unusedSimpArgs false
set_option linter.unusedVariables false
attribute [-go_sem] Builtin.append_
theorem en_SCloneA : Enters Try.prog 57 := ⟨_, Try.func57, by kernel_rfl, rfl⟩
theorem own_emptyA {w : World} {B g : Nat} (hg : w.heap[g]? = some (.cells #[] 106 (0, 0))) (hB : B ≤ g) : OwnA w B 106 (.slice (some ⟨g, 0, none⟩) 0 0) [] :=
  ⟨rfl, .inr ⟨g, 0, #[], rfl, hB, hg, Nat.le_refl _, by unfold maxLen; omega, rfl, rfl⟩⟩
theorem append_someA {w : World} {B b o c : Nat} {v : Value} {M L : List Al} (hown : OwnA w B 106 v M) (hx : AlsO w b o L) (hl : M.length + L.length ≤ 1000000000000) (hB : B ≤ w.heap.size) :
    ∃ v' w', (Builtin.append_ #[102, 102] 102 #[v, .slice (some ⟨b, o, none⟩) L.length c]).run Try.prog w = .ok v' w' ∧ OwnA w' B 106 v' (M ++ L) ∧ w.grownBy w' v.ownBlock := by
  obtain ⟨i0, z, hinf, hs, hby, hz, hcc⟩ := al_info
  obtain ⟨v', w', h1, h2, h3, -, -⟩ := run_append_own_at (P := Try.prog) w B 102 102 106 i0 z 4 32 Try.underlying102 hinf hz hs hby (by rw [hcc]; rfl) (by omega) v M.length (M.flatMap cA) hown ⟨b, o, none⟩ L.length c (L.flatMap cA) (flatA_len L)
    (fun j u hj => by
      have hjl : j < L.length * 4 := by
        rw [← flatA_len L]
        exact (List.getElem?_eq_some_iff.1 hj).1
      obtain ⟨g0, g1, g2, g3⟩ := hx (j / 4) (by omega)
      have e1 : j = j / 4 * 4 + j % 4 := by omega
      have h5 := flat_get cA 4 (by omega) cA_len L (j / 4) (by omega) (j % 4) (by omega)
      rw [← e1, hj] at h5
      rw [radd_flat]
      have h6 : j % 4 = 0 ∨ j % 4 = 1 ∨ j % 4 = 2 ∨ j % 4 = 3 := by omega
      rcases h6 with h6 | h6 | h6 | h6 <;> rw [h6] at h5 e1 <;> simp [cA] at h5 <;> subst h5
      · rw [show o + j = o + j / 4 * 4 by omega]; exact g0
      · rw [show o + j = o + j / 4 * 4 + 1 by omega]; exact g1
      · rw [show o + j = o + j / 4 * 4 + 2 by omega]; exact g2
      · rw [show o + j = o + j / 4 * 4 + 3 by omega]; exact g3)
    (cA_one L) (by unfold maxLen; omega) (by omega) hB
  refine ⟨v', w', h1, ?_, h3⟩
  unfold OwnA
  rw [List.length_append, List.flatMap_append]
  exact h2
theorem append_noneA {w : World} {B : Nat} {v : Value} {b o c : Nat} (hown : OwnA w B 106 v []) (hB : B ≤ w.heap.size) :
    ∃ v' w', (Builtin.append_ #[102, 102] 102 #[v, .slice (some ⟨b, o, none⟩) 0 c]).run Try.prog w = .ok v' w' ∧ OwnA w' B 106 v' [] ∧ w.grownBy w' v.ownBlock :=
  append_someA (L := []) hown (fun i hi => absurd hi (by simp)) (by simp) hB
theorem eql_als_nil (a : Option Addr) (n c : Nat) (w : World) : (binOp .eql 102 (.slice a n c) (.slice none 0 0)).run Try.prog w = .ok (.bool a.isNone) w :=
  Go.Lib.run_eql_slice_nil (P := Try.prog) w 102 106 a n c 0 0 Try.underlying102
attribute [local go_sem ↓] eql_als_nil
theorem clone_any {w : World} {B : Nat} {v : Value} {l : List Al} (h : OwnA w B 106 v l) (hl : l.length ≤ 100000000000) :
    Calls Try.prog 57 #[v] w fun e w' => ∃ v', e = .returned v' ∧ OwnA w' w.heap.size 106 v' l ∧ Ext w w' := by
  rcases Nat.eq_zero_or_pos l.length with h0 | hp
  · obtain rfl : l = [] := List.length_eq_zero_iff.1 h0
    rcases h.2 with ⟨e1, e2⟩ | ⟨g, cap, cur, e1, e2, e3, -⟩
    · subst e1
      clear h e2 h0
      go_enter Try.func57, Try.ntmps57
      go_wp2
      go_ret
      exact ⟨_, rfl, ⟨rfl, .inl ⟨rfl, rfl⟩⟩, by (repeat (first | exact Ext.refl _ | apply Ext.drew_left | apply Ext.drew | apply Ext.alloc))⟩
    · subst e1
      clear h e2 e3 h0
      obtain ⟨v7, W7, hrun7, ho7, hg7⟩ := append_noneA (w := w.alloc (.cells #[] 106)) (B := w.heap.size) (b := g) (o := 0) (c := cap) (own_emptyA (heap_alloc_new w _) (Nat.le_refl _)) (by simp)
      have hx7 : Ext w W7 := ext_grown ((Ext.refl w).alloc _) hg7 (own_emptyA (heap_alloc_new w _) (Nat.le_refl _)) (Nat.le_refl _)
      simp only [List.length_nil]
      go_enter Try.func57, Try.ntmps57
      go_wp2
      go_ret
      exact ⟨_, rfl, ho7, hx7⟩
  · obtain ⟨g, c, rfl, hlc, -, -, hgl, hat⟩ := ownA_at h hp
    clear h
    obtain ⟨v7, W7, hrun7, ho7, hg7⟩ := append_someA (w := w.alloc (.cells #[] 106)) (B := w.heap.size) (c := c) (o := 0) (b := g) (L := l) (own_emptyA (heap_alloc_new w _) (Nat.le_refl _)) (fun i hi => by rw [Nat.zero_add]; exact (hat i hi).ext ((Ext.refl w).alloc _)) (by simp; omega) (by simp)
    have hx7 : Ext w W7 := ext_grown ((Ext.refl w).alloc _) hg7 (own_emptyA (heap_alloc_new w _) (Nat.le_refl _)) (Nat.le_refl _)
    rw [List.nil_append] at ho7
    have HO7 := hid_mk (And.intro ho7 hx7)
    clear ho7 hx7 hat
    go_enter Try.func57, Try.ntmps57
    go_wp2
    go_ret
    exact ⟨_, rfl, HO7.out.1, HO7.out.2⟩
/-- What Due gives back. -/
structure DueAt (w0 w : World) (lb nb : Nat) (v : Value) (l : List Al) (t : Int) : Prop where
  cl : w.cell? ⟨lb, 0, none⟩ = some v
  cn : w.cell? ⟨nb, 0, none⟩ = some (.int .i64 t)
  own : OwnA w w0.heap.size 106 v l
  lo : w0.heap.size ≤ lb ∧ w0.heap.size ≤ nb
theorem due_any {B : Nat} {w : World} {tb mb : Nat} {v : Value} {l : List Al} (h : TimerAt B w tb mb v l) (t : Int) (hl : l.length ≤ 100000000000) :
    Calls Try.prog 31 #[.pointer (some ⟨tb, 0, none⟩), .int .i64 t] w fun e w' => ∃ lb nb v', e = .returned (.func (.func 58) #[] #[.pointer (some ⟨lb, 0, none⟩), .pointer (some ⟨nb, 0, none⟩)]) ∧ DueAt w w' lb nb v' l t ∧ Ext w w' := by
  have h1 := h.c1
  have htl := h.lt.1
  have HO1 := hid_mk h.own
  have HLEN := hid_mk hl
  clear h hl
  go_enter Try.func31, Try.ntmps31
  go_wp2_with fail
  refine (clone_any (own_ext HO1.out (show Ext w (w.alloc (.cells #[.int .i64 t] 3)) by (repeat (first | exact Ext.refl _ | apply Ext.drew_left | apply Ext.drew | apply Ext.alloc)))) HLEN.out).mono ?_
  rintro e W2 ⟨v', rfl, ho, hx⟩
  obtain ⟨va, vc, rfl⟩ := own_form ho
  have HO := hid_mk (And.intro ho hx)
  have HN := hid_mk (show W2.cell? ⟨w.heap.size, 0, none⟩ = some (.int .i64 t) from cell_ext hx (newc rfl))
  clear ho hx
  go_wp2
  go_ret
  have hz := HO.out.2.below.size
  simp at hz
  refine ⟨W2.heap.size, w.heap.size, _, rfl, ⟨newc rfl, cell_ext ((Ext.refl W2).alloc _) HN.out, OwnA.lower (own_ext HO.out.1 ((Ext.refl W2).alloc _)) (by simp), by omega, Nat.le_refl _⟩, ?_⟩
  exact (Ext.trans _ _ _ (show Ext w (w.alloc (.cells #[.int .i64 t] 3)) by (repeat (first | exact Ext.refl _ | apply Ext.drew_left | apply Ext.drew | apply Ext.alloc))) HO.out.2).alloc _
theorem due_pre {t : Int} {l : List Al} {m : Nat} (h0 : dueA t (l.take m) = l.take m) : l.take m <+: dueA t l := by
  have h1 : ∀ x ∈ l.take m, decide (x.2 ≤ t) = true := fun x hx => by
    unfold dueA at h0
    rw [← h0] at hx
    exact tw_all (p := fun x : Al => decide (x.2 ≤ t)) hx
  refine ⟨dueA t (l.drop m), ?_⟩
  unfold dueA
  rw [← List.takeWhile_append_of_pos h1, List.take_append_drop]
def IsDue (t : Int) (l ys : List Al) : Prop := ys = dueA t l
def PreDue (t : Int) (l ys : List Al) : Prop := ys <+: dueA t l
def encA (a : Al) : Array Value := #[nmV a.1, .int .i64 a.2]
attribute [local go_sem] Oper.semAt_some
theorem grown_drewA (w : World) (row : Option Nat) : w.grownBy w.drew row := ⟨rfl, rfl, rfl, Nat.le_refl _, fun _ _ _ => rfl⟩
theorem below_allocA {n : Nat} {w : World} (h : n ≤ w.heap.size) (o : Obj) : Below n w (w.alloc o) := (Below.refl n w).alloc h o
theorem dueC_in (F : Fence) (n : Nat) (hF : F.fn 58) (hro : F.round = none) (hn : 1 ≤ n) (lp lb nb : Nat) (v : Value) (l : List Al) (t : Int) (J Jx : List Al → World → Prop) (w : World)
    (hY : ∀ pre x W, J pre W → pre.length < (dueA t l).length → YieldAt F (n - 1) Try.prog lp (encA x) W fun e W' =>
      (e = .returned (.bool true) ∧ J (pre ++ [x]) W' ∧ Below w.heap.size W W') ∨ (e = .returned (.bool false) ∧ Jx (pre ++ [x]) W'))
    (W : World) (hJa : AbidesFrom W.heap.size J) (hlb : w.cell? ⟨lb, 0, none⟩ = some v) (hnb : w.cell? ⟨nb, 0, none⟩ = some (.int .i64 t)) (hs : AlsSl w v l) (hW : Below w.heap.size w W) (h0 : J [] W) :
    CallsIn F n Try.prog 58 #[.func (.yield lp) #[] #[], .pointer (some ⟨lb, 0, none⟩), .pointer (some ⟨nb, 0, none⟩)] W fun e W' => (∃ v, e = .returned v) ∧
      ((∃ ys, IsDue t l ys ∧ J ys W') ∨ (∃ pre, PreDue t l pre ∧ Jx pre W')) := by
  obtain ⟨a, c, rfl, hlc, -, hl63, hcl⟩ := hs
  have HC := hid_mk hcl
  have hBl := cell_lt hlb
  have hBn := cell_lt hnb
  clear hcl
  refine callsIn_of_wp Try.func58 rfl hF ?_ hro
  simp only [Try.ntmps58, List.size_toArray, List.length_cons, List.length_nil, Nat.reduceAdd, Nat.reduceSub, Array.replicate_succ, Array.replicate_zero, List.push_toArray, List.append_toArray, List.nil_append, List.cons_append]
  have hcb0 := (hW.cell (p := ⟨lb, 0, none⟩) hBl).trans hlb
  gi_wp2
  gi_loopw [8] (fun i wr => ∃ k : Nat, i = .int .i64 ((k : Nat) : Int) ∧ k ≤ l.length ∧ dueA t (l.take k) = l.take k ∧ J (l.take k) wr ∧ Below w.heap.size w wr) (fun i _ => l.length - (intOf i).toNat)
  case atStart => exact ⟨0, rfl, Nat.zero_le _, by simp [dueA], by simpa using h0, hW⟩
  case round =>
    obtain ⟨k, rfl, hk, hdu, hJs, hnx⟩ := hrel
    have hcn := (hnx.cell (p := ⟨nb, 0, none⟩) hBn).trans hnb
    by_cases hlt : k < l.length
    · obtain ⟨b, rfl, hcl⟩ := HC.out (by omega)
      obtain ⟨a0, a1, a2, a3⟩ := (hcl k hlt).ext (Ext.of hnx)
      have hbl := cell_lt a0
      have hcnl := cell_lt hcn
      have hk1 : (k : Int) < (l.length : Int) := by omega
      have hk3 : (0 : Int) ≤ (k : Int) := by omega
      have HD := hid_mk (due_take hlt hdu)
      have HT := hid_mk (show l.take (k + 1) = l.take k ++ [l[k]] from List.take_succ_eq_append_getElem hlt)
      obtain ⟨y, hy⟩ : ∃ y, l[k] = y := ⟨_, rfl⟩
      rw [hy] at a0 a1 a2 a3 HD HT
      clear hy hcl
      by_cases hgt : t < y.2
      · have e9 : IsDue t l (l.take k) := (HD.out.2 (by omega)).symm
        have hJ2 := hJa _ _ _ none hJs (World.grownBy_alloc wr (.cells #[.int .i64 y.1.1, .int .i64 y.1.2.1, .int .i64 y.1.2.2, .int .i64 y.2] 106) none) (by simp)
        have HJ2 := hid_mk hJ2
        clear hJ2
        gi_wp2
        refine ⟨by simp, ?_⟩
        gi_wp2
        refine bodyPost_ret (results_none rfl _ _ _) rfl ?_
        exact ⟨⟨_, rfl⟩, .inl ⟨_, e9, HJ2.out⟩⟩
      · have e9 := HD.out.1 (by omega)
        have hpl := due_pre e9
        have hJ2 := hJa _ _ _ none hJs (World.grownBy_alloc wr (.cells #[.int .i64 y.1.1, .int .i64 y.1.2.1, .int .i64 y.1.2.2, .int .i64 y.2] 106) none) (by simp)
        have hkl : (l.take k).length < (dueA t l).length := by
          have h9 := hpl.length_le
          rw [List.length_take] at h9 ⊢
          omega
        obtain ⟨fn, tmps, assign, body, hyd, hR⟩ := hY (l.take k) y _ hJ2 hkl
        rw [← HT.out] at hR
        have HPL := hid_mk (show PreDue t l (l.take (k + 1)) from hpl)
        have HE9 := hid_mk e9
        dsimp only [encA] at hyd
        clear hJ2 hkl hpl e9
        gi_wp2_with fail
        refine hR.mono ?_
        rintro e W3 (⟨rfl, hJ3, hk3'⟩ | ⟨rfl, hJx3⟩)
        · gi_wp2
          go_roundw
          case rel => exact ⟨k + 1, by go_num, hlt, HE9.out, hJ3, hnx.trans ((below_allocA hnx.size _).trans hk3')⟩
          case measure => simp [intOf]; omega
        · gi_wp2
          refine bodyPost_ret (results_none rfl _ _ _) rfl ?_
          exact ⟨⟨_, rfl⟩, .inr ⟨_, HPL.out, hJx3⟩⟩
    · obtain rfl : k = l.length := by omega
      rw [List.take_length] at hdu hJs
      have e0 : ¬ ((l.length : Int) < (l.length : Int)) := by omega
      gi_wp2
      go_end0
      exact ⟨⟨_, rfl⟩, .inl ⟨_, hdu.symm, hJs⟩⟩
theorem due_stops (F : Fence) (n : Nat) (hF : F.fn 58) (hro : F.round = none) (hn : 1 ≤ n) (lb nb : Nat) (v : Value) (l : List Al) (t : Int) (w : World) (hlb : w.cell? ⟨lb, 0, none⟩ = some v) (hnb : w.cell? ⟨nb, 0, none⟩ = some (.int .i64 t)) (hs : AlsSl w v l) :
    SeqStopsK F n Try.prog 58 #[.pointer (some ⟨lb, 0, none⟩), .pointer (some ⟨nb, 0, none⟩)] encA (Below w.heap.size) (IsDue t l) (PreDue t l) (dueA t l).length w := fun lp J Jx W hW hJ hJx hY h0 =>
  dueC_in F n hF hro hn lp lb nb v l t J Jx w hY W hJ hlb hnb hs hW h0
end Go.Proofs.Ytiimoaplhhnklaa
