/- Trees: a walk through a row of their rows. Trees and stores: Span and All, as iterators; what a store holds. -/
import Derived.Test.YtokcgnbjkbhmiaaDoorReg6
import Derived.Test.YtokcgnbjkbhmiaaDoorMQI
import Derived.Test.YtokcgnbjkbhmiaaDoorMRgN
namespace Go.Proofs.YtokcgnbjkbhmiaaDoor
open Go.RowKit Go.Lib
set_option maxHeartbeats 1000000
set_option maxRecDepth 100000
set_option linter.unusedSimpArgs false
set_option linter.unusedVariables false
attribute [local go_sem] Oper.semAt_some
theorem en_Twalk4 : Enters Tryd.prog 113 := ⟨_, Tryd.func113, by kernel_rfl, rfl⟩
/-- The rows that a walk goes through. -/
def segT : T4 → Int → Int → List (ByteArray × Ent)
  | .nil, _, _ => []
  | .node l k v _ r, i, j => if j ≤ i then [] else segT l i (min j l.size) ++ ((if i ≤ (l.size : Int) ∧ (l.size : Int) < j then [(k, v)] else []) ++ segT r (max (i - l.size - 1) 0) (j - l.size - 1))
theorem segT_none (T : T4) {i j : Int} (h : j ≤ i) : segT T i j = [] := by
  cases T with
  | nil => rfl
  | node l k v s r => rw [segT, if_pos h]
abbrev encKV (x : ByteArray × Ent) : Array Value := #[.string x.1, entV x.2]
/-- A walk has gone through rows, or was left behind some of them. -/
def Walked (B : Nat) (L : List Nat) (bb : Nat) (J : List (ByteArray × Ent) × Nat → World → Prop) (Jx : List (ByteArray × Ent) → World → Prop) (pre seg : List (ByteArray × Ent)) (g : Nat) (W : World) (e : Ending) (W' : World) : Prop :=
  ∃ b, e = .returned (.bool b) ∧ (b = true → ∃ g', J (pre ++ seg, g') W' ∧ YR B L bb g W g' W') ∧ (b = false → ∃ a c, seg = a ++ c ∧ Jx (pre ++ a) W')
theorem NodeAt4.bx {L : List Nat} {w w' : World} {b : Nat} {k : ByteArray} {v : V4} {s sm : S4} {pl pr : Value} {n h : Int} (q : NodeAt4 w b k v s sm pl pr n h) (hx : BelowX w.heap.size L w w') (hn : b ∉ L) : NodeAt4 w' b k v s sm pl pr n h := q.xl hx.xl hn
theorem IsTree4.bx {L : List Nat} {Sp : Option Nat} {J : S4 → S4 → S4} {z : S4} {w w' : World} {pv : Value} {T : T4} (h : IsTree4 Sp J z w pv T) (hq : ∀ b, b ∈ L → NoNode w b) (hx : BelowX w.heap.size L w w') : IsTree4 Sp J z w' pv T := h.awayL hq hx.xl
section
variable {B bb g g1 : Nat} {L : List Nat} {J : List (ByteArray × Ent) × Nat → World → Prop} {Jx : List (ByteArray × Ent) → World → Prop} {pre seg s1 s2 m : List (ByteArray × Ent)} {x : ByteArray × Ent} {W W1 W' : World} {e : Ending}
theorem walked_l (hs : seg = s1 ++ s2) (hF : ∃ a c, s1 = a ++ c ∧ Jx (pre ++ a) W') : Walked B L bb J Jx pre seg g W (.returned (.bool false)) W' := by
  obtain ⟨a, c, h1, h2⟩ := hF
  exact ⟨false, rfl, (fun h => by cases h), fun _ => ⟨a, c ++ s2, by rw [hs, h1, List.append_assoc], h2⟩⟩
theorem walked_m (hs : seg = s1 ++ ([x] ++ s2)) (h : Jx (pre ++ s1 ++ [x]) W') : Walked B L bb J Jx pre seg g W (.returned (.bool false)) W' :=
  ⟨false, rfl, (fun h => by cases h), fun _ => ⟨s1 ++ [x], s2, by rw [hs, List.append_assoc], by rw [← List.append_assoc]; exact h⟩⟩
theorem walked_r (hs : seg = s1 ++ (m ++ s2)) (hx : YR B L bb g W g1 W1) (h : Walked B L bb J Jx (pre ++ s1 ++ m) s2 g1 W1 e W') : Walked B L bb J Jx pre seg g W e W' := by
  obtain ⟨b, rfl, hT, hF⟩ := h
  refine ⟨b, rfl, fun hb => ?_, fun hb => ?_⟩
  · obtain ⟨g2, h1, h2⟩ := hT hb
    exact ⟨g2, by rw [hs]; simpa [List.append_assoc] using h1, hx.trans h2⟩
  · obtain ⟨a, c, h1, h2⟩ := hF hb
    exact ⟨s1 ++ (m ++ a), c, by rw [hs, h1]; simp [List.append_assoc], by simpa [List.append_assoc] using h2⟩
end
theorem walk_any {L : List Nat} {lp N bb : Nat} {J : List (ByteArray × Ent) × Nat → World → Prop} {Jx : List (ByteArray × Ent) → World → Prop} {Sp : Option Nat} {JJ : S4 → S4 → S4} {z : S4} {w : World} (hY : YieldsN Tryd.prog encKV w.heap.size L bb N lp J Jx) (hL : ∀ b, b ∈ L → NoNode w b) (hJE : ∀ s X Y, J s X → Ext X Y → J s Y) :
    ∀ (T : T4) (pv : Value) (i j : Int) (pre : List (ByteArray × Ent)) (g : Nat) (W : World) (n : Nat), IsTree4 Sp JJ z w pv T → BelowX w.heap.size L w W → J (pre, g) W →
      (0 ≤ i ∧ i ≤ 2305843009213693952) → (-2305843009213693952 + (T.size : Int) ≤ j ∧ j ≤ 2305843009213693952) → T.size ≤ 1152921504606846976 → pre.length + (segT T i j).length ≤ N →
      CallsIn Fence.wide n Tryd.prog 113 #[pv, .int .i64 i, .int .i64 j, .func (.yield lp) #[] #[]] W (Walked w.heap.size L bb J Jx pre (segT T i j) g W)
  | .nil, pv, i, j, pre, g, W, n, hT, hW, hJ, hi, hj, hz, hN => by
    cases hT
    have HJ := hid_mk hJ
    have HWS := hid_mk hW.size
    clear hJ hW hY
    refine callsIn_of_wp Tryd.func113 rfl trivial ?_ rfl
    simp only [Tryd.ntmps113, List.size_toArray, List.length_cons, List.length_nil, Nat.reduceAdd, Nat.reduceSub, Array.replicate_succ, Array.replicate_zero, List.push_toArray, List.append_toArray, List.nil_append, List.cons_append]
    gi_wp2
    refine bodyPost_ret (v := .bool true) (by unfold results; rw [Tryd.results113]; go_simp; first | done | rfl) rfl ⟨true, rfl, fun _ => ⟨g, by simpa [segT] using HJ.out, YR.ext (Ext.refl _) HWS.out⟩, fun h => by cases h⟩
  | .node l k v s r, pv, i, j, pre, g, W, n, hT, hW, hJ, hi, hj, hz, hN => by
    obtain ⟨b, pl, pr, rfl, -, hNd, hl, hr⟩ := hT
    have hbn : b ∉ L := fun e => hL b e _ _ _ _ _ _ _ _ hNd
    have HND := hid_mk hNd
    have HLl := hid_mk hl
    have HRr := hid_mk hr
    have HBN := hid_mk hbn
    have HW := hid_mk hW
    have HJ := hid_mk hJ
    have HI := hid_mk hi
    have HJJ := hid_mk hj
    have HZ := hid_mk hz
    have HN := hid_mk hN
    clear hNd hl hr hW hJ hN hbn
    by_cases hij : j ≤ i
    · have HS := hid_mk (segT_none (.node l k v s r) hij)
      refine callsIn_of_wp Tryd.func113 rfl trivial ?_ rfl
      simp only [Tryd.ntmps113, List.size_toArray, List.length_cons, List.length_nil, Nat.reduceAdd, Nat.reduceSub, Array.replicate_succ, Array.replicate_zero, List.push_toArray, List.append_toArray, List.nil_append, List.cons_append]
      gi_wp2
      refine bodyPost_ret (v := .bool true) (by unfold results; rw [Tryd.results113]; go_simp; first | done | rfl) rfl ⟨true, rfl, fun _ => ⟨g, by rw [HS.out]; simpa using HJ.out, YR.ext (Ext.refl _) HW.out.size⟩, fun h => by cases h⟩
    · obtain ⟨c0, c1, c2, c3, c4, c5, c6, c7, c8, c9, c10, c11, c12, c13, c14, c15⟩ := HND.out.bx HW.out HBN.out
      have hbl := cell_lt c0
      refine callsIn_of_wp Tryd.func113 rfl trivial ?_ rfl
      simp only [Tryd.ntmps113, List.size_toArray, List.length_cons, List.length_nil, Nat.reduceAdd, Nat.reduceSub, Array.replicate_succ, Array.replicate_zero, List.push_toArray, List.append_toArray, List.nil_append, List.cons_append]
      gi_wp2_with fail
      refine ⟨trivial, fun e => (Bool.false_ne_true e).elim, CallsIn.mono (callsIn_wide.2 (many4_any (HLl.out.bx hL HW.out))) ?_⟩
      rintro e w1 ⟨rfl, rfl⟩
      have IHl := hid_mk (walk_any (Sp := Sp) (JJ := JJ) (z := z) hY hL hJE l pl)
      have IHr := hid_mk (walk_any (Sp := Sp) (JJ := JJ) (z := z) hY hL hJE r pr)
      have HYY := hid_mk hY
      have hsz : l.size + 1 + r.size ≤ 1152921504606846976 := HZ.out
      have hjs : -2305843009213693952 + ((l.size + 1 + r.size : Nat) : Int) ≤ j ∧ j ≤ 2305843009213693952 := HJJ.out
      have HB1 := hid_mk (show -2305843009213693952 + (l.size : Int) ≤ min j (l.size : Int) ∧ min j (l.size : Int) ≤ 2305843009213693952 by omega)
      have HB2 := hid_mk (show (0 : Int) ≤ max (i - l.size - 1) 0 ∧ max (i - l.size - 1) 0 ≤ 2305843009213693952 by omega)
      have HB3 := hid_mk (show -2305843009213693952 + (r.size : Int) ≤ j - l.size - 1 ∧ j - l.size - 1 ≤ 2305843009213693952 by omega)
      have HB4 := hid_mk (show l.size ≤ 1152921504606846976 ∧ r.size ≤ 1152921504606846976 by omega)
      have HW1 := hid_mk (show IntKind.i64.wrap (i - (l.size : Int)) = i - l.size ∧ IntKind.i64.wrap (i - (l.size : Int) - 1) = i - l.size - 1 ∧ IntKind.i64.wrap (j - (l.size : Int)) = j - l.size ∧ IntKind.i64.wrap (j - (l.size : Int) - 1) = j - l.size - 1 from ⟨(wrapI_eq _).trans (w64in (by omega)), (wrapI_eq _).trans (w64in (by omega)), (wrapI_eq _).trans (w64in (by omega)), (wrapI_eq _).trans (w64in (by omega))⟩)
      have HSG := hid_mk (show segT (.node l k v s r) i j = segT l i (min j l.size) ++ ((if i ≤ (l.size : Int) ∧ (l.size : Int) < j then [(k, v)] else []) ++ segT r (max (i - l.size - 1) 0) (j - l.size - 1)) by rw [segT, if_neg (by omega)])
      have HN1 := hid_mk (show pre.length + (segT l i (min j l.size)).length ≤ N by have h := HN.out; rw [HSG.out, List.length_append] at h; omega)
      have HN2 := hid_mk (show i ≤ (l.size : Int) → (l.size : Int) < j → (pre ++ segT l i (min j l.size)).length < N by
        intro h1 h2
        have h := HN.out
        rw [HSG.out, if_pos (by omega), List.length_append, List.length_append] at h
        rw [List.length_append]
        simp at h
        omega)
      have HS1 := hid_mk (show i ≤ (l.size : Int) → (l.size : Int) < j → segT (.node l k v s r) i j = segT l i (min j l.size) ++ ([(k, v)] ++ segT r (max (i - l.size - 1) 0) (j - l.size - 1)) by
        intro h1 h2
        rw [HSG.out, if_pos (by omega)])
      have HS0 := hid_mk (show ((l.size : Int) < i ∨ j ≤ (l.size : Int)) → segT (.node l k v s r) i j = segT l i (min j l.size) ++ ([] ++ segT r (max (i - l.size - 1) 0) (j - l.size - 1)) by
        intro h1
        rw [HSG.out, if_neg (by omega)])
      have HN3 := hid_mk (show ∀ m : List (ByteArray × Ent), segT (.node l k v s r) i j = segT l i (min j l.size) ++ (m ++ segT r (max (i - l.size - 1) 0) (j - l.size - 1)) → (pre ++ segT l i (min j l.size) ++ m).length + (segT r (max (i - l.size - 1) 0) (j - l.size - 1)).length ≤ N by
        intro m h1
        have h := HN.out
        rw [h1] at h
        simp only [List.length_append] at h ⊢
        omega)
      have HXD := hid_mk (fun V : World => (show YR w.heap.size L bb g W g W.drew from YR.ext (by (repeat (first | exact Ext.refl _ | apply Ext.drew_left | apply Ext.drew | apply Ext.alloc))) HW.out.size))
      clear hsz hjs
      gi_wp2_with fail
      obtain ⟨g1, g2, g3, g4⟩ := HW1.out
      refine wpIn_region_planI (.quiet 0 (.quiet 1 (.quiet 2 (.quiet 4 (.quiet 5 (.quiet 6 (.quiet 7 (.quiet 8 (.alt 3 (.alt 9 (.quiet 10 (.quiet 11 (.quiet 12 (.quiet 13 (.quiet 14 (.quiet 15 (.quiet 16 (.quiet 17 (.quiet 18 (.quiet 19 (.quiet 20 (.quiet 21 (.quiet 22 (.quiet 23 (.quiet 25 (.quiet 26 (.quiet 27 (.alt 24 (.alt 28 (.alt 29 (.quiet 30 (.quiet 31 (.quiet 32 (.quiet 33 (.quiet 34 (.quiet 35 (.quiet 37 (.quiet 38 (.quiet 39 (.quiet 40 (.quiet 41 (.quiet 42 (.quiet 43 (.quiet 44 (.quiet 45 (.quiet 46 (.alt 36 (.alt 47 (.quiet 48 (.quiet 49 .done)) .stop) .stop))))))))))))))))) .stop) .stop) (.alt 28 (.alt 24 (.alt 29 (.quiet 30 (.quiet 31 (.quiet 32 (.quiet 33 (.quiet 34 (.quiet 35 (.quiet 37 (.quiet 38 (.quiet 39 (.quiet 40 (.quiet 41 (.quiet 42 (.quiet 43 (.quiet 44 (.quiet 45 (.quiet 46 (.alt 36 (.alt 47 (.quiet 48 (.quiet 49 .done)) .stop) .stop))))))))))))))))) .stop) .stop) .stop))))))))))))))))))) .stop) .stop))))))))) (by kernel_rfl) (by kernel_rfl) (by intro c a w d v h; cases d <;> exact h) (fun ops HO => ?_)
      refine planI_calm _ (hi_of HO rfl) rfl (fun w' => by go_simp; rfl) (fun _ => rfl) ?_
      simp only [Act.put, List.setIfInBounds_toArray, List.set_cons_succ, List.set_cons_zero]
      refine planI_calm _ (hi_of HO rfl) rfl (fun w' => by go_simp; rfl) (fun _ => rfl) ?_
      simp only [Act.put, List.setIfInBounds_toArray, List.set_cons_succ, List.set_cons_zero]
      refine planI_calm _ (hi_of HO rfl) rfl (fun w' => by go_simp; rfl) (fun _ => rfl) ?_
      simp only [Act.put, List.setIfInBounds_toArray, List.set_cons_succ, List.set_cons_zero]
      refine planI_calm _ (hi_of HO rfl) rfl (fun w' => by go_simp; rfl) (fun _ => rfl) ?_
      simp only [Act.put, List.setIfInBounds_toArray, List.set_cons_succ, List.set_cons_zero]
      refine planI_calm _ (hi_of HO rfl) rfl (fun w' => by go_simp; rfl) (fun _ => rfl) ?_
      simp only [Act.put, List.setIfInBounds_toArray, List.set_cons_succ, List.set_cons_zero]
      refine planI_calm _ (hi_of HO rfl) rfl (fun w' => by go_simp; rfl) (fun _ => rfl) ?_
      simp only [Act.put, List.setIfInBounds_toArray, List.set_cons_succ, List.set_cons_zero]
      refine planI_calm _ (hi_of HO rfl) rfl (fun w' => by go_simp; rfl) (fun _ => rfl) ?_
      simp only [Act.put, List.setIfInBounds_toArray, List.set_cons_succ, List.set_cons_zero]
      refine planI_calm _ (hi_of HO rfl) rfl (fun w' => by go_simp; rfl) (fun _ => rfl) ?_
      simp only [Act.put, List.setIfInBounds_toArray, List.set_cons_succ, List.set_cons_zero]
      refine planI_loud1 (hi_of HO rfl) rfl ?_
      go_simp
      refine planI_call1 en_Twalk4 (hi_of HO rfl) rfl rfl (by go_simp; rfl) (by exact IHl.out i (min j l.size) pre g _ _ HLl.out (HW.out.trans (HXD.out W).en.bx) (hJE _ _ _ HJ.out (by (repeat (first | exact Ext.refl _ | apply Ext.drew_left | apply Ext.drew | apply Ext.alloc)))) HI.out HB1.out HB4.out.1 HN1.out) ?_
      rintro e w9 ⟨b1, rfl, hT1, hF1⟩
      refine ⟨_, rfl, ?_⟩
      simp only [Act.put, List.setIfInBounds_toArray, List.set_cons_succ, List.set_cons_zero]
      have HT1 := hid_mk hT1
      have HF1 := hid_mk hF1
      clear hT1 hF1
      refine planI_boolc _ (hi_of HO rfl) rfl (fun w' => by go_simp; rfl) (by rfl) (fun _ => rfl) ?hF101 ?hT101
      case' hF101 =>
        intro hb101
        simp only [Act.put, List.setIfInBounds_toArray, List.set_cons_succ, List.set_cons_zero]
        refine planI_skip (hi_of HO rfl) (by rw [HO.out]; rfl) (fun _ => rfl) ?_
        simp only [Act.put, List.setIfInBounds_toArray, List.set_cons_succ, List.set_cons_zero]
        refine planI_skip (hi_of HO rfl) (by rw [HO.out]; rfl) (fun _ => rfl) ?_
        simp only [Act.put, List.setIfInBounds_toArray, List.set_cons_succ, List.set_cons_zero]
        refine planI_skip (hi_of HO rfl) (by rw [HO.out]; rfl) (fun _ => rfl) ?_
        simp only [Act.put, List.setIfInBounds_toArray, List.set_cons_succ, List.set_cons_zero]
        refine planI_skip (hi_of HO rfl) (by rw [HO.out]; rfl) (fun _ => rfl) ?_
        simp only [Act.put, List.setIfInBounds_toArray, List.set_cons_succ, List.set_cons_zero]
        refine planI_skip (hi_of HO rfl) (by rw [HO.out]; rfl) (fun _ => rfl) ?_
        simp only [Act.put, List.setIfInBounds_toArray, List.set_cons_succ, List.set_cons_zero]
        refine planI_skip (hi_of HO rfl) (by rw [HO.out]; rfl) (fun _ => rfl) ?_
        simp only [Act.put, List.setIfInBounds_toArray, List.set_cons_succ, List.set_cons_zero]
        refine planI_skip (hi_of HO rfl) (by rw [HO.out]; rfl) (fun _ => rfl) ?_
        simp only [Act.put, List.setIfInBounds_toArray, List.set_cons_succ, List.set_cons_zero]
        refine planI_skip (hi_of HO rfl) (by rw [HO.out]; rfl) (fun _ => rfl) ?_
        simp only [Act.put, List.setIfInBounds_toArray, List.set_cons_succ, List.set_cons_zero]
        refine planI_skip (hi_of HO rfl) (by rw [HO.out]; rfl) (fun _ => rfl) ?_
        simp only [Act.put, List.setIfInBounds_toArray, List.set_cons_succ, List.set_cons_zero]
        refine planI_skip (hi_of HO rfl) (by rw [HO.out]; rfl) (fun _ => rfl) ?_
        simp only [Act.put, List.setIfInBounds_toArray, List.set_cons_succ, List.set_cons_zero]
        refine planI_skip (hi_of HO rfl) (by rw [HO.out]; rfl) (fun _ => rfl) ?_
        simp only [Act.put, List.setIfInBounds_toArray, List.set_cons_succ, List.set_cons_zero]
        refine planI_skip (hi_of HO rfl) (by rw [HO.out]; rfl) (fun _ => rfl) ?_
        simp only [Act.put, List.setIfInBounds_toArray, List.set_cons_succ, List.set_cons_zero]
        refine planI_skip (hi_of HO rfl) (by rw [HO.out]; rfl) (fun _ => rfl) ?_
        simp only [Act.put, List.setIfInBounds_toArray, List.set_cons_succ, List.set_cons_zero]
        refine planI_skip (hi_of HO rfl) (by rw [HO.out]; rfl) (fun _ => rfl) ?_
        simp only [Act.put, List.setIfInBounds_toArray, List.set_cons_succ, List.set_cons_zero]
        refine planI_skip (hi_of HO rfl) (by rw [HO.out]; rfl) (fun _ => rfl) ?_
        simp only [Act.put, List.setIfInBounds_toArray, List.set_cons_succ, List.set_cons_zero]
        refine planI_skip (hi_of HO rfl) (by rw [HO.out]; rfl) (fun _ => rfl) ?_
        simp only [Act.put, List.setIfInBounds_toArray, List.set_cons_succ, List.set_cons_zero]
        refine planI_fork ?lA102 ?lB102
        case' lA102 =>
          refine planI_skip1 (hi_of HO rfl) (by rw [HO.out]; rfl) ?_
          simp only [Act.put, List.setIfInBounds_toArray, List.set_cons_succ, List.set_cons_zero]
          refine planI_skip1 (hi_of HO rfl) (by rw [HO.out]; rfl) ?_
          simp only [Act.put, List.setIfInBounds_toArray, List.set_cons_succ, List.set_cons_zero]
          refine planI_skip1 (hi_of HO rfl) (by rw [HO.out]; rfl) ?_
          simp only [Act.put, List.setIfInBounds_toArray, List.set_cons_succ, List.set_cons_zero]
          refine planI_skip (hi_of HO rfl) (by rw [HO.out]; rfl) (fun _ => rfl) ?_
          simp only [Act.put, List.setIfInBounds_toArray, List.set_cons_succ, List.set_cons_zero]
          refine planI_calm _ (hi_of HO rfl) rfl (fun w' => by go_simp; rfl) (fun _ => rfl) ?_
          simp only [Act.put, List.setIfInBounds_toArray, List.set_cons_succ, List.set_cons_zero]
          refine planI_calm _ (hi_of HO rfl) rfl (fun w' => by go_simp; rfl) (fun _ => rfl) ?_
          simp only [Act.put, List.setIfInBounds_toArray, List.set_cons_succ, List.set_cons_zero]
          refine planI_skip (hi_of HO rfl) (by rw [HO.out]; rfl) (fun _ => rfl) ?_
          simp only [Act.put, List.setIfInBounds_toArray, List.set_cons_succ, List.set_cons_zero]
          refine planI_skip (hi_of HO rfl) (by rw [HO.out]; rfl) (fun _ => rfl) ?_
          simp only [Act.put, List.setIfInBounds_toArray, List.set_cons_succ, List.set_cons_zero]
          refine planI_skip (hi_of HO rfl) (by rw [HO.out]; rfl) (fun _ => rfl) ?_
          simp only [Act.put, List.setIfInBounds_toArray, List.set_cons_succ, List.set_cons_zero]
          refine planI_skip (hi_of HO rfl) (by rw [HO.out]; rfl) (fun _ => rfl) ?_
          simp only [Act.put, List.setIfInBounds_toArray, List.set_cons_succ, List.set_cons_zero]
          refine planI_skip (hi_of HO rfl) (by rw [HO.out]; rfl) (fun _ => rfl) ?_
          simp only [Act.put, List.setIfInBounds_toArray, List.set_cons_succ, List.set_cons_zero]
          refine planI_skip (hi_of HO rfl) (by rw [HO.out]; rfl) (fun _ => rfl) ?_
          simp only [Act.put, List.setIfInBounds_toArray, List.set_cons_succ, List.set_cons_zero]
          refine planI_skip (hi_of HO rfl) (by rw [HO.out]; rfl) (fun _ => rfl) ?_
          simp only [Act.put, List.setIfInBounds_toArray, List.set_cons_succ, List.set_cons_zero]
          refine planI_skip (hi_of HO rfl) (by rw [HO.out]; rfl) (fun _ => rfl) ?_
          simp only [Act.put, List.setIfInBounds_toArray, List.set_cons_succ, List.set_cons_zero]
          refine planI_skip (hi_of HO rfl) (by rw [HO.out]; rfl) (fun _ => rfl) ?_
          simp only [Act.put, List.setIfInBounds_toArray, List.set_cons_succ, List.set_cons_zero]
          refine planI_skip (hi_of HO rfl) (by rw [HO.out]; rfl) (fun _ => rfl) ?_
          simp only [Act.put, List.setIfInBounds_toArray, List.set_cons_succ, List.set_cons_zero]
          refine planI_skip (hi_of HO rfl) (by rw [HO.out]; rfl) (fun _ => rfl) ?_
          simp only [Act.put, List.setIfInBounds_toArray, List.set_cons_succ, List.set_cons_zero]
          refine planI_skip (hi_of HO rfl) (by rw [HO.out]; rfl) (fun _ => rfl) ?_
          simp only [Act.put, List.setIfInBounds_toArray, List.set_cons_succ, List.set_cons_zero]
          refine planI_skip (hi_of HO rfl) (by rw [HO.out]; rfl) (fun _ => rfl) ?_
          simp only [Act.put, List.setIfInBounds_toArray, List.set_cons_succ, List.set_cons_zero]
          refine planI_skip1 (hi_of HO rfl) (by rw [HO.out]; rfl) ?_
          simp only [Act.put, List.setIfInBounds_toArray, List.set_cons_succ, List.set_cons_zero]
          refine planI_skip1 (hi_of HO rfl) (by rw [HO.out]; rfl) ?_
          simp only [Act.put, List.setIfInBounds_toArray, List.set_cons_succ, List.set_cons_zero]
          refine planI_calm _ (hi_of HO rfl) rfl (fun w' => by go_simp; rfl) (fun _ => rfl) ?_
          simp only [Act.put, List.setIfInBounds_toArray, List.set_cons_succ, List.set_cons_zero]
          refine planI_calm _ (hi_of HO rfl) rfl (fun w' => by go_simp; rfl) (fun _ => rfl) ?_
          simp only [Act.put, List.setIfInBounds_toArray, List.set_cons_succ, List.set_cons_zero]
          refine planI_done ?fin103
        case' lB102 =>
          refine planI_skip1 (hi_of HO rfl) (by rw [HO.out]; rfl) ?_
          simp only [Act.put, List.setIfInBounds_toArray, List.set_cons_succ, List.set_cons_zero]
          refine planI_skip1 (hi_of HO rfl) (by rw [HO.out]; rfl) ?_
          simp only [Act.put, List.setIfInBounds_toArray, List.set_cons_succ, List.set_cons_zero]
          refine planI_skip1 (hi_of HO rfl) (by rw [HO.out]; rfl) ?_
          simp only [Act.put, List.setIfInBounds_toArray, List.set_cons_succ, List.set_cons_zero]
          refine planI_skip (hi_of HO rfl) (by rw [HO.out]; rfl) (fun _ => rfl) ?_
          simp only [Act.put, List.setIfInBounds_toArray, List.set_cons_succ, List.set_cons_zero]
          refine planI_calm _ (hi_of HO rfl) rfl (fun w' => by go_simp; rfl) (fun _ => rfl) ?_
          simp only [Act.put, List.setIfInBounds_toArray, List.set_cons_succ, List.set_cons_zero]
          refine planI_calm _ (hi_of HO rfl) rfl (fun w' => by go_simp; rfl) (fun _ => rfl) ?_
          simp only [Act.put, List.setIfInBounds_toArray, List.set_cons_succ, List.set_cons_zero]
          refine planI_skip (hi_of HO rfl) (by rw [HO.out]; rfl) (fun _ => rfl) ?_
          simp only [Act.put, List.setIfInBounds_toArray, List.set_cons_succ, List.set_cons_zero]
          refine planI_skip (hi_of HO rfl) (by rw [HO.out]; rfl) (fun _ => rfl) ?_
          simp only [Act.put, List.setIfInBounds_toArray, List.set_cons_succ, List.set_cons_zero]
          refine planI_skip (hi_of HO rfl) (by rw [HO.out]; rfl) (fun _ => rfl) ?_
          simp only [Act.put, List.setIfInBounds_toArray, List.set_cons_succ, List.set_cons_zero]
          refine planI_skip (hi_of HO rfl) (by rw [HO.out]; rfl) (fun _ => rfl) ?_
          simp only [Act.put, List.setIfInBounds_toArray, List.set_cons_succ, List.set_cons_zero]
          refine planI_skip (hi_of HO rfl) (by rw [HO.out]; rfl) (fun _ => rfl) ?_
          simp only [Act.put, List.setIfInBounds_toArray, List.set_cons_succ, List.set_cons_zero]
          refine planI_skip (hi_of HO rfl) (by rw [HO.out]; rfl) (fun _ => rfl) ?_
          simp only [Act.put, List.setIfInBounds_toArray, List.set_cons_succ, List.set_cons_zero]
          refine planI_skip (hi_of HO rfl) (by rw [HO.out]; rfl) (fun _ => rfl) ?_
          simp only [Act.put, List.setIfInBounds_toArray, List.set_cons_succ, List.set_cons_zero]
          refine planI_skip (hi_of HO rfl) (by rw [HO.out]; rfl) (fun _ => rfl) ?_
          simp only [Act.put, List.setIfInBounds_toArray, List.set_cons_succ, List.set_cons_zero]
          refine planI_skip (hi_of HO rfl) (by rw [HO.out]; rfl) (fun _ => rfl) ?_
          simp only [Act.put, List.setIfInBounds_toArray, List.set_cons_succ, List.set_cons_zero]
          refine planI_skip (hi_of HO rfl) (by rw [HO.out]; rfl) (fun _ => rfl) ?_
          simp only [Act.put, List.setIfInBounds_toArray, List.set_cons_succ, List.set_cons_zero]
          refine planI_skip (hi_of HO rfl) (by rw [HO.out]; rfl) (fun _ => rfl) ?_
          simp only [Act.put, List.setIfInBounds_toArray, List.set_cons_succ, List.set_cons_zero]
          refine planI_skip (hi_of HO rfl) (by rw [HO.out]; rfl) (fun _ => rfl) ?_
          simp only [Act.put, List.setIfInBounds_toArray, List.set_cons_succ, List.set_cons_zero]
          refine planI_skip (hi_of HO rfl) (by rw [HO.out]; rfl) (fun _ => rfl) ?_
          simp only [Act.put, List.setIfInBounds_toArray, List.set_cons_succ, List.set_cons_zero]
          refine planI_skip1 (hi_of HO rfl) (by rw [HO.out]; rfl) ?_
          simp only [Act.put, List.setIfInBounds_toArray, List.set_cons_succ, List.set_cons_zero]
          refine planI_skip1 (hi_of HO rfl) (by rw [HO.out]; rfl) ?_
          simp only [Act.put, List.setIfInBounds_toArray, List.set_cons_succ, List.set_cons_zero]
          refine planI_calm _ (hi_of HO rfl) rfl (fun w' => by go_simp; rfl) (fun _ => rfl) ?_
          simp only [Act.put, List.setIfInBounds_toArray, List.set_cons_succ, List.set_cons_zero]
          refine planI_calm _ (hi_of HO rfl) rfl (fun w' => by go_simp; rfl) (fun _ => rfl) ?_
          simp only [Act.put, List.setIfInBounds_toArray, List.set_cons_succ, List.set_cons_zero]
          refine planI_done ?fin104
      case' hT101 =>
        intro hb101
        simp only [Act.put, List.setIfInBounds_toArray, List.set_cons_succ, List.set_cons_zero]
        refine planI_calm _ (hi_of HO rfl) (by rw [HO.out]; rfl) (fun w' => by go_simp; rfl) (fun _ => rfl) ?_
        simp only [Act.put, List.setIfInBounds_toArray, List.set_cons_succ, List.set_cons_zero]
        refine planI_calm _ (hi_of HO rfl) (by rw [HO.out]; rfl) (fun w' => by go_simp; rfl) (fun _ => rfl) ?_
        simp only [Act.put, List.setIfInBounds_toArray, List.set_cons_succ, List.set_cons_zero]
        refine planI_calm _ (hi_of HO rfl) (by rw [HO.out]; rfl) (fun w' => by go_simp; rfl) (fun _ => rfl) ?_
        simp only [Act.put, List.setIfInBounds_toArray, List.set_cons_succ, List.set_cons_zero]
        refine planI_boolc _ (hi_of HO rfl) (by rw [HO.out]; rfl) (fun w' => by go_simp; rfl) (by rfl) (fun _ => rfl) ?hF105 ?hT105
        case' hF105 =>
          intro hb105
          simp only [Act.put, List.setIfInBounds_toArray, List.set_cons_succ, List.set_cons_zero]
          refine planI_calm _ (hi_of HO rfl) (by rw [HO.out]; rfl) (fun w' => by go_simp; rfl) (fun _ => rfl) ?_
          simp only [Act.put, List.setIfInBounds_toArray, List.set_cons_succ, List.set_cons_zero]
          refine planI_calm _ (hi_of HO rfl) (by rw [HO.out]; rfl) (fun w' => by go_simp; rfl) (fun _ => rfl) ?_
          simp only [Act.put, List.setIfInBounds_toArray, List.set_cons_succ, List.set_cons_zero]
          refine planI_calm _ (hi_of HO rfl) (by rw [HO.out]; rfl) (fun w' => by go_simp; rfl) (fun _ => rfl) ?_
          simp only [Act.put, List.setIfInBounds_toArray, List.set_cons_succ, List.set_cons_zero]
          refine planI_calm _ (hi_of HO rfl) (by rw [HO.out]; rfl) (fun w' => by go_simp; rfl) (fun _ => rfl) ?_
          simp only [Act.put, List.setIfInBounds_toArray, List.set_cons_succ, List.set_cons_zero]
          refine planI_boolc _ (hi_of HO rfl) (by rw [HO.out]; rfl) (fun w' => by go_simp; rfl) (by rfl) (fun _ => rfl) ?hF106 ?hT106
          case' hF106 =>
            intro hb106
            simp only [Act.put, List.setIfInBounds_toArray, List.set_cons_succ, List.set_cons_zero]
            refine planI_calm _ (hi_of HO rfl) (by rw [HO.out]; rfl) (fun w' => by go_simp; rfl) (fun _ => rfl) ?_
            simp only [Act.put, List.setIfInBounds_toArray, List.set_cons_succ, List.set_cons_zero]
            refine planI_calm _ (hi_of HO rfl) (by rw [HO.out]; rfl) (fun w' => by go_simp; rfl) (fun _ => rfl) ?_
            simp only [Act.put, List.setIfInBounds_toArray, List.set_cons_succ, List.set_cons_zero]
            refine planI_calm _ (hi_of HO rfl) (by rw [HO.out]; rfl) (fun w' => by go_simp; rfl) (fun _ => rfl) ?_
            simp only [Act.put, List.setIfInBounds_toArray, List.set_cons_succ, List.set_cons_zero]
            refine planI_calm _ (hi_of HO rfl) (by rw [HO.out]; rfl) (fun w' => by go_simp; rfl) (fun _ => rfl) ?_
            simp only [Act.put, List.setIfInBounds_toArray, List.set_cons_succ, List.set_cons_zero]
            refine planI_calm _ (hi_of HO rfl) (by rw [HO.out]; rfl) (fun w' => by go_simp; rfl) (fun _ => rfl) ?_
            simp only [Act.put, List.setIfInBounds_toArray, List.set_cons_succ, List.set_cons_zero]
            refine planI_calm _ (hi_of HO rfl) (by rw [HO.out]; rfl) (fun w' => by go_simp; rfl) (fun _ => rfl) ?_
            simp only [Act.put, List.setIfInBounds_toArray, List.set_cons_succ, List.set_cons_zero]
            refine planI_calm _ (hi_of HO rfl) (by rw [HO.out]; rfl) (fun w' => by go_simp; rfl) (fun _ => rfl) ?_
            simp only [Act.put, List.setIfInBounds_toArray, List.set_cons_succ, List.set_cons_zero]
            refine planI_fork ?lA107 ?lB107
            case' lA107 =>
              have hen : BelowX w.heap.size L w w9 := (HT1.out (by assumption)).elim fun g1 hj => HW.out.trans ((HXD.out W).trans hj.2).en.bx
              have hd := HND.out.bx hen HBN.out
              clear hen
              obtain ⟨d0, d1, d2, d3, d4, d5, d6, d7, d8, d9, d10, d11, d12, d13, d14, d15⟩ := hd
              have hdl := cell_lt d0
              refine planI_loud1 (hi_of HO rfl) (by rw [HO.out]; rfl) ?_
              go_simp
              clear d0 d1 d2 d3 d4 d5 d6 d7 d8 d9 d10 d11 d12 d13 d14 d15 hdl
              have hen : BelowX w.heap.size L w w9 := (HT1.out (by assumption)).elim fun g1 hj => HW.out.trans ((HXD.out W).trans hj.2).en.bx
              have hd := HND.out.bx hen HBN.out
              clear hen
              obtain ⟨d0, d1, d2, d3, d4, d5, d6, d7, d8, d9, d10, d11, d12, d13, d14, d15⟩ := hd
              have hdl := cell_lt d0
              refine planI_loud1 (hi_of HO rfl) (by rw [HO.out]; rfl) ?_
              go_simp
              clear d0 d1 d2 d3 d4 d5 d6 d7 d8 d9 d10 d11 d12 d13 d14 d15 hdl
              have HQ1 := hid_mk (show i ≤ (l.size : Int) from Int.not_lt.1 (of_decide_eq_false (by assumption)))
              have HQ2 := hid_mk (show (l.size : Int) < j from Int.not_le.1 (of_decide_eq_false (by assumption)))
              obtain ⟨g1, hj1, hy1⟩ := HT1.out (by assumption)
              have HG1 := hid_mk (And.intro hj1 hy1)
              clear hj1 hy1
              refine planI_round (hi_of HO rfl) (by rw [HO.out]; rfl) rfl (by go_simp; rfl) (by go_simp; rfl) (by exact yieldAt_wide (HYY.out (pre ++ segT l i (min j l.size)) g1 (k, v) _ HG1.out.1 (HN2.out HQ1.out HQ2.out))) ?_
              rintro e w29 ⟨b2, rfl, hT2, hF2⟩
              refine ⟨_, rfl, ?_⟩
              simp only [Act.put, List.setIfInBounds_toArray, List.set_cons_succ, List.set_cons_zero]
              have HT2 := hid_mk hT2
              have HF2 := hid_mk hF2
              clear hT2 hF2
              refine planI_calm _ (hi_of HO rfl) (by rw [HO.out]; rfl) (fun w' => by go_simp; rfl) (fun _ => rfl) ?_
              simp only [Act.put, List.setIfInBounds_toArray, List.set_cons_succ, List.set_cons_zero]
              refine planI_calm _ (hi_of HO rfl) rfl (fun w' => by go_simp; rfl) (fun _ => rfl) ?_
              simp only [Act.put, List.setIfInBounds_toArray, List.set_cons_succ, List.set_cons_zero]
              refine planI_boolc _ (hi_of HO rfl) rfl (fun w' => by go_simp; rfl) (by rfl) (fun _ => rfl) ?hF108 ?hT108
              case' hF108 =>
                intro hb108
                simp only [Act.put, List.setIfInBounds_toArray, List.set_cons_succ, List.set_cons_zero]
                refine planI_skip (hi_of HO rfl) (by rw [HO.out]; rfl) (fun _ => rfl) ?_
                simp only [Act.put, List.setIfInBounds_toArray, List.set_cons_succ, List.set_cons_zero]
                refine planI_skip (hi_of HO rfl) (by rw [HO.out]; rfl) (fun _ => rfl) ?_
                simp only [Act.put, List.setIfInBounds_toArray, List.set_cons_succ, List.set_cons_zero]
                refine planI_skip (hi_of HO rfl) (by rw [HO.out]; rfl) (fun _ => rfl) ?_
                simp only [Act.put, List.setIfInBounds_toArray, List.set_cons_succ, List.set_cons_zero]
                refine planI_skip (hi_of HO rfl) (by rw [HO.out]; rfl) (fun _ => rfl) ?_
                simp only [Act.put, List.setIfInBounds_toArray, List.set_cons_succ, List.set_cons_zero]
                refine planI_skip (hi_of HO rfl) (by rw [HO.out]; rfl) (fun _ => rfl) ?_
                simp only [Act.put, List.setIfInBounds_toArray, List.set_cons_succ, List.set_cons_zero]
                refine planI_skip (hi_of HO rfl) (by rw [HO.out]; rfl) (fun _ => rfl) ?_
                simp only [Act.put, List.setIfInBounds_toArray, List.set_cons_succ, List.set_cons_zero]
                refine planI_skip (hi_of HO rfl) (by rw [HO.out]; rfl) (fun _ => rfl) ?_
                simp only [Act.put, List.setIfInBounds_toArray, List.set_cons_succ, List.set_cons_zero]
                refine planI_skip (hi_of HO rfl) (by rw [HO.out]; rfl) (fun _ => rfl) ?_
                simp only [Act.put, List.setIfInBounds_toArray, List.set_cons_succ, List.set_cons_zero]
                refine planI_skip (hi_of HO rfl) (by rw [HO.out]; rfl) (fun _ => rfl) ?_
                simp only [Act.put, List.setIfInBounds_toArray, List.set_cons_succ, List.set_cons_zero]
                refine planI_skip (hi_of HO rfl) (by rw [HO.out]; rfl) (fun _ => rfl) ?_
                simp only [Act.put, List.setIfInBounds_toArray, List.set_cons_succ, List.set_cons_zero]
                refine planI_skip (hi_of HO rfl) (by rw [HO.out]; rfl) (fun _ => rfl) ?_
                simp only [Act.put, List.setIfInBounds_toArray, List.set_cons_succ, List.set_cons_zero]
                refine planI_skip (hi_of HO rfl) (by rw [HO.out]; rfl) (fun _ => rfl) ?_
                simp only [Act.put, List.setIfInBounds_toArray, List.set_cons_succ, List.set_cons_zero]
                refine planI_skip (hi_of HO rfl) (by rw [HO.out]; rfl) (fun _ => rfl) ?_
                simp only [Act.put, List.setIfInBounds_toArray, List.set_cons_succ, List.set_cons_zero]
                refine planI_skip1 (hi_of HO rfl) (by rw [HO.out]; rfl) ?_
                simp only [Act.put, List.setIfInBounds_toArray, List.set_cons_succ, List.set_cons_zero]
                refine planI_skip1 (hi_of HO rfl) (by rw [HO.out]; rfl) ?_
                simp only [Act.put, List.setIfInBounds_toArray, List.set_cons_succ, List.set_cons_zero]
                refine planI_calm _ (hi_of HO rfl) rfl (fun w' => by go_simp; rfl) (fun _ => rfl) ?_
                simp only [Act.put, List.setIfInBounds_toArray, List.set_cons_succ, List.set_cons_zero]
                refine planI_calm _ (hi_of HO rfl) rfl (fun w' => by go_simp; rfl) (fun _ => rfl) ?_
                simp only [Act.put, List.setIfInBounds_toArray, List.set_cons_succ, List.set_cons_zero]
                refine planI_done ?fin109
              case' hT108 =>
                intro hb108
                simp only [Act.put, List.setIfInBounds_toArray, List.set_cons_succ, List.set_cons_zero]
                refine planI_calm _ (hi_of HO rfl) (by rw [HO.out]; rfl) (fun w' => by go_simp; rfl) (fun _ => rfl) ?_
                simp only [Act.put, List.setIfInBounds_toArray, List.set_cons_succ, List.set_cons_zero]
                refine planI_calm _ (hi_of HO rfl) (by rw [HO.out]; rfl) (fun w' => by go_simp; rfl) (fun _ => rfl) ?_
                simp only [Act.put, List.setIfInBounds_toArray, List.set_cons_succ, List.set_cons_zero]
                refine planI_calm _ (hi_of HO rfl) (by rw [HO.out]; rfl) (fun w' => by go_simp; rfl) (fun _ => rfl) ?_
                simp only [Act.put, List.setIfInBounds_toArray, List.set_cons_succ, List.set_cons_zero]
                refine planI_calm _ (hi_of HO rfl) (by rw [HO.out]; rfl) (fun w' => by go_simp; rfl) (fun _ => rfl) ?_
                simp only [Act.put, List.setIfInBounds_toArray, List.set_cons_succ, List.set_cons_zero]
                refine planI_calm _ (hi_of HO rfl) (by rw [HO.out]; rfl) (fun w' => by go_simp; rfl) (fun _ => rfl) ?_
                simp only [Act.put, List.setIfInBounds_toArray, List.set_cons_succ, List.set_cons_zero]
                refine planI_calm _ (hi_of HO rfl) (by rw [HO.out]; rfl) (fun w' => by go_simp; rfl) (fun _ => rfl) ?_
                simp only [Act.put, List.setIfInBounds_toArray, List.set_cons_succ, List.set_cons_zero]
                refine planI_calm _ (hi_of HO rfl) (by rw [HO.out]; rfl) (fun w' => by go_simp; rfl) (fun _ => rfl) ?_
                simp only [Act.put, List.setIfInBounds_toArray, List.set_cons_succ, List.set_cons_zero]
                refine planI_calm _ (hi_of HO rfl) (by rw [HO.out]; rfl) (fun w' => by go_simp; rfl) (fun _ => rfl) ?_
                simp only [Act.put, List.setIfInBounds_toArray, List.set_cons_succ, List.set_cons_zero]
                refine planI_calm _ (hi_of HO rfl) (by rw [HO.out]; rfl) (fun w' => by go_simp; rfl) (fun _ => rfl) ?_
                simp only [Act.put, List.setIfInBounds_toArray, List.set_cons_succ, List.set_cons_zero]
                refine planI_calm _ (hi_of HO rfl) (by rw [HO.out]; rfl) (fun w' => by go_simp; rfl) (fun _ => rfl) ?_
                simp only [Act.put, List.setIfInBounds_toArray, List.set_cons_succ, List.set_cons_zero]
                refine planI_calm _ (hi_of HO rfl) (by rw [HO.out]; rfl) (fun w' => by go_simp; rfl) (fun _ => rfl) ?_
                simp only [Act.put, List.setIfInBounds_toArray, List.set_cons_succ, List.set_cons_zero]
                refine planI_calm _ (hi_of HO rfl) (by rw [HO.out]; rfl) (fun w' => by go_simp; rfl) (fun _ => rfl) ?_
                simp only [Act.put, List.setIfInBounds_toArray, List.set_cons_succ, List.set_cons_zero]
                refine planI_calm _ (hi_of HO rfl) (by rw [HO.out]; rfl) (fun w' => by go_simp; rfl) (fun _ => rfl) ?_
                simp only [Act.put, List.setIfInBounds_toArray, List.set_cons_succ, List.set_cons_zero]
                first | obtain ⟨g2, hj2, hy2⟩ := HT2.out (by assumption) | obtain ⟨g2, hj2, hy2⟩ := HT1.out (by assumption)
                have HJ2 := hid_mk hj2
                first | have hen := ((HXD.out W).trans HG1.out.2).trans hy2 | have hen := (HXD.out W).trans hy2
                have HEN := hid_mk hen
                have hd := HND.out.bx (HW.out.trans hen.en.bx) HBN.out
                clear hen hj2 hy2
                obtain ⟨d0, d1, d2, d3, d4, d5, d6, d7, d8, d9, d10, d11, d12, d13, d14, d15⟩ := hd
                have hdl := cell_lt d0
                refine planI_loud1 (hi_of HO rfl) (by rw [HO.out]; rfl) ?_
                go_simp
                clear d0 d1 d2 d3 d4 d5 d6 d7 d8 d9 d10 d11 d12 d13 d14 d15 hdl
                first | have HSE := hid_mk (HS1.out HQ1.out HQ2.out) | have HSE := hid_mk (HS0.out (.inl (of_decide_eq_true (by assumption)))) | have HSE := hid_mk (HS0.out (.inr (of_decide_eq_true (by assumption))))
                refine planI_call1 en_Twalk4 (hi_of HO rfl) (by rw [HO.out]; rfl) rfl (by go_simp; rfl) (by first | exact IHr.out (max (i - l.size - 1) 0) (j - l.size - 1) (pre ++ segT l i (min j l.size) ++ [(k, v)]) g2 _ _ HRr.out (HW.out.trans HEN.out.en.bx) HJ2.out HB2.out HB3.out HB4.out.2 (HN3.out _ HSE.out) | exact IHr.out (max (i - l.size - 1) 0) (j - l.size - 1) (pre ++ segT l i (min j l.size) ++ []) g2 _ _ HRr.out (HW.out.trans HEN.out.en.bx) (by rw [List.append_nil]; exact HJ2.out) HB2.out HB3.out HB4.out.2 (HN3.out _ HSE.out)) ?_
                rintro e w47 hw3
                have HW3 := hid_mk (walked_r HSE.out HEN.out hw3)
                obtain ⟨b3, rfl, -, -⟩ := hw3
                refine ⟨_, rfl, ?_⟩
                simp only [Act.put, List.setIfInBounds_toArray, List.set_cons_succ, List.set_cons_zero]
                refine planI_calm _ (hi_of HO rfl) rfl (fun w' => by go_simp; rfl) (fun _ => rfl) ?_
                simp only [Act.put, List.setIfInBounds_toArray, List.set_cons_succ, List.set_cons_zero]
                refine planI_calm _ (hi_of HO rfl) rfl (fun w' => by go_simp; rfl) (fun _ => rfl) ?_
                simp only [Act.put, List.setIfInBounds_toArray, List.set_cons_succ, List.set_cons_zero]
                refine planI_done ?fin110
            case' lB107 =>
              have hen : BelowX w.heap.size L w w9 := (HT1.out (by assumption)).elim fun g1 hj => HW.out.trans ((HXD.out W).trans hj.2).en.bx
              have hd := HND.out.bx hen HBN.out
              clear hen
              obtain ⟨d0, d1, d2, d3, d4, d5, d6, d7, d8, d9, d10, d11, d12, d13, d14, d15⟩ := hd
              have hdl := cell_lt d0
              refine planI_loud1 (hi_of HO rfl) (by rw [HO.out]; rfl) ?_
              go_simp
              clear d0 d1 d2 d3 d4 d5 d6 d7 d8 d9 d10 d11 d12 d13 d14 d15 hdl
              have hen : BelowX w.heap.size L w w9 := (HT1.out (by assumption)).elim fun g1 hj => HW.out.trans ((HXD.out W).trans hj.2).en.bx
              have hd := HND.out.bx hen HBN.out
              clear hen
              obtain ⟨d0, d1, d2, d3, d4, d5, d6, d7, d8, d9, d10, d11, d12, d13, d14, d15⟩ := hd
              have hdl := cell_lt d0
              refine planI_loud1 (hi_of HO rfl) (by rw [HO.out]; rfl) ?_
              go_simp
              clear d0 d1 d2 d3 d4 d5 d6 d7 d8 d9 d10 d11 d12 d13 d14 d15 hdl
              have HQ1 := hid_mk (show i ≤ (l.size : Int) from Int.not_lt.1 (of_decide_eq_false (by assumption)))
              have HQ2 := hid_mk (show (l.size : Int) < j from Int.not_le.1 (of_decide_eq_false (by assumption)))
              obtain ⟨g1, hj1, hy1⟩ := HT1.out (by assumption)
              have HG1 := hid_mk (And.intro hj1 hy1)
              clear hj1 hy1
              refine planI_round (hi_of HO rfl) (by rw [HO.out]; rfl) rfl (by go_simp; rfl) (by go_simp; rfl) (by exact yieldAt_wide (HYY.out (pre ++ segT l i (min j l.size)) g1 (k, v) _ HG1.out.1 (HN2.out HQ1.out HQ2.out))) ?_
              rintro e w29 ⟨b2, rfl, hT2, hF2⟩
              refine ⟨_, rfl, ?_⟩
              simp only [Act.put, List.setIfInBounds_toArray, List.set_cons_succ, List.set_cons_zero]
              have HT2 := hid_mk hT2
              have HF2 := hid_mk hF2
              clear hT2 hF2
              refine planI_calm _ (hi_of HO rfl) (by rw [HO.out]; rfl) (fun w' => by go_simp; rfl) (fun _ => rfl) ?_
              simp only [Act.put, List.setIfInBounds_toArray, List.set_cons_succ, List.set_cons_zero]
              refine planI_calm _ (hi_of HO rfl) rfl (fun w' => by go_simp; rfl) (fun _ => rfl) ?_
              simp only [Act.put, List.setIfInBounds_toArray, List.set_cons_succ, List.set_cons_zero]
              refine planI_boolc _ (hi_of HO rfl) rfl (fun w' => by go_simp; rfl) (by rfl) (fun _ => rfl) ?hF111 ?hT111
              case' hF111 =>
                intro hb111
                simp only [Act.put, List.setIfInBounds_toArray, List.set_cons_succ, List.set_cons_zero]
                refine planI_skip (hi_of HO rfl) (by rw [HO.out]; rfl) (fun _ => rfl) ?_
                simp only [Act.put, List.setIfInBounds_toArray, List.set_cons_succ, List.set_cons_zero]
                refine planI_skip (hi_of HO rfl) (by rw [HO.out]; rfl) (fun _ => rfl) ?_
                simp only [Act.put, List.setIfInBounds_toArray, List.set_cons_succ, List.set_cons_zero]
                refine planI_skip (hi_of HO rfl) (by rw [HO.out]; rfl) (fun _ => rfl) ?_
                simp only [Act.put, List.setIfInBounds_toArray, List.set_cons_succ, List.set_cons_zero]
                refine planI_skip (hi_of HO rfl) (by rw [HO.out]; rfl) (fun _ => rfl) ?_
                simp only [Act.put, List.setIfInBounds_toArray, List.set_cons_succ, List.set_cons_zero]
                refine planI_skip (hi_of HO rfl) (by rw [HO.out]; rfl) (fun _ => rfl) ?_
                simp only [Act.put, List.setIfInBounds_toArray, List.set_cons_succ, List.set_cons_zero]
                refine planI_skip (hi_of HO rfl) (by rw [HO.out]; rfl) (fun _ => rfl) ?_
                simp only [Act.put, List.setIfInBounds_toArray, List.set_cons_succ, List.set_cons_zero]
                refine planI_skip (hi_of HO rfl) (by rw [HO.out]; rfl) (fun _ => rfl) ?_
                simp only [Act.put, List.setIfInBounds_toArray, List.set_cons_succ, List.set_cons_zero]
                refine planI_skip (hi_of HO rfl) (by rw [HO.out]; rfl) (fun _ => rfl) ?_
                simp only [Act.put, List.setIfInBounds_toArray, List.set_cons_succ, List.set_cons_zero]
                refine planI_skip (hi_of HO rfl) (by rw [HO.out]; rfl) (fun _ => rfl) ?_
                simp only [Act.put, List.setIfInBounds_toArray, List.set_cons_succ, List.set_cons_zero]
                refine planI_skip (hi_of HO rfl) (by rw [HO.out]; rfl) (fun _ => rfl) ?_
                simp only [Act.put, List.setIfInBounds_toArray, List.set_cons_succ, List.set_cons_zero]
                refine planI_skip (hi_of HO rfl) (by rw [HO.out]; rfl) (fun _ => rfl) ?_
                simp only [Act.put, List.setIfInBounds_toArray, List.set_cons_succ, List.set_cons_zero]
                refine planI_skip (hi_of HO rfl) (by rw [HO.out]; rfl) (fun _ => rfl) ?_
                simp only [Act.put, List.setIfInBounds_toArray, List.set_cons_succ, List.set_cons_zero]
                refine planI_skip (hi_of HO rfl) (by rw [HO.out]; rfl) (fun _ => rfl) ?_
                simp only [Act.put, List.setIfInBounds_toArray, List.set_cons_succ, List.set_cons_zero]
                refine planI_skip1 (hi_of HO rfl) (by rw [HO.out]; rfl) ?_
                simp only [Act.put, List.setIfInBounds_toArray, List.set_cons_succ, List.set_cons_zero]
                refine planI_skip1 (hi_of HO rfl) (by rw [HO.out]; rfl) ?_
                simp only [Act.put, List.setIfInBounds_toArray, List.set_cons_succ, List.set_cons_zero]
                refine planI_calm _ (hi_of HO rfl) rfl (fun w' => by go_simp; rfl) (fun _ => rfl) ?_
                simp only [Act.put, List.setIfInBounds_toArray, List.set_cons_succ, List.set_cons_zero]
                refine planI_calm _ (hi_of HO rfl) rfl (fun w' => by go_simp; rfl) (fun _ => rfl) ?_
                simp only [Act.put, List.setIfInBounds_toArray, List.set_cons_succ, List.set_cons_zero]
                refine planI_done ?fin112
              case' hT111 =>
                intro hb111
                simp only [Act.put, List.setIfInBounds_toArray, List.set_cons_succ, List.set_cons_zero]
                refine planI_calm _ (hi_of HO rfl) (by rw [HO.out]; rfl) (fun w' => by go_simp; rfl) (fun _ => rfl) ?_
                simp only [Act.put, List.setIfInBounds_toArray, List.set_cons_succ, List.set_cons_zero]
                refine planI_calm _ (hi_of HO rfl) (by rw [HO.out]; rfl) (fun w' => by go_simp; rfl) (fun _ => rfl) ?_
                simp only [Act.put, List.setIfInBounds_toArray, List.set_cons_succ, List.set_cons_zero]
                refine planI_calm _ (hi_of HO rfl) (by rw [HO.out]; rfl) (fun w' => by go_simp; rfl) (fun _ => rfl) ?_
                simp only [Act.put, List.setIfInBounds_toArray, List.set_cons_succ, List.set_cons_zero]
                refine planI_calm _ (hi_of HO rfl) (by rw [HO.out]; rfl) (fun w' => by go_simp; rfl) (fun _ => rfl) ?_
                simp only [Act.put, List.setIfInBounds_toArray, List.set_cons_succ, List.set_cons_zero]
                refine planI_calm _ (hi_of HO rfl) (by rw [HO.out]; rfl) (fun w' => by go_simp; rfl) (fun _ => rfl) ?_
                simp only [Act.put, List.setIfInBounds_toArray, List.set_cons_succ, List.set_cons_zero]
                refine planI_calm _ (hi_of HO rfl) (by rw [HO.out]; rfl) (fun w' => by go_simp; rfl) (fun _ => rfl) ?_
                simp only [Act.put, List.setIfInBounds_toArray, List.set_cons_succ, List.set_cons_zero]
                refine planI_calm _ (hi_of HO rfl) (by rw [HO.out]; rfl) (fun w' => by go_simp; rfl) (fun _ => rfl) ?_
                simp only [Act.put, List.setIfInBounds_toArray, List.set_cons_succ, List.set_cons_zero]
                refine planI_calm _ (hi_of HO rfl) (by rw [HO.out]; rfl) (fun w' => by go_simp; rfl) (fun _ => rfl) ?_
                simp only [Act.put, List.setIfInBounds_toArray, List.set_cons_succ, List.set_cons_zero]
                refine planI_calm _ (hi_of HO rfl) (by rw [HO.out]; rfl) (fun w' => by go_simp; rfl) (fun _ => rfl) ?_
                simp only [Act.put, List.setIfInBounds_toArray, List.set_cons_succ, List.set_cons_zero]
                refine planI_calm _ (hi_of HO rfl) (by rw [HO.out]; rfl) (fun w' => by go_simp; rfl) (fun _ => rfl) ?_
                simp only [Act.put, List.setIfInBounds_toArray, List.set_cons_succ, List.set_cons_zero]
                refine planI_calm _ (hi_of HO rfl) (by rw [HO.out]; rfl) (fun w' => by go_simp; rfl) (fun _ => rfl) ?_
                simp only [Act.put, List.setIfInBounds_toArray, List.set_cons_succ, List.set_cons_zero]
                refine planI_calm _ (hi_of HO rfl) (by rw [HO.out]; rfl) (fun w' => by go_simp; rfl) (fun _ => rfl) ?_
                simp only [Act.put, List.setIfInBounds_toArray, List.set_cons_succ, List.set_cons_zero]
                refine planI_calm _ (hi_of HO rfl) (by rw [HO.out]; rfl) (fun w' => by go_simp; rfl) (fun _ => rfl) ?_
                simp only [Act.put, List.setIfInBounds_toArray, List.set_cons_succ, List.set_cons_zero]
                first | obtain ⟨g2, hj2, hy2⟩ := HT2.out (by assumption) | obtain ⟨g2, hj2, hy2⟩ := HT1.out (by assumption)
                have HJ2 := hid_mk hj2
                first | have hen := ((HXD.out W).trans HG1.out.2).trans hy2 | have hen := (HXD.out W).trans hy2
                have HEN := hid_mk hen
                have hd := HND.out.bx (HW.out.trans hen.en.bx) HBN.out
                clear hen hj2 hy2
                obtain ⟨d0, d1, d2, d3, d4, d5, d6, d7, d8, d9, d10, d11, d12, d13, d14, d15⟩ := hd
                have hdl := cell_lt d0
                refine planI_loud1 (hi_of HO rfl) (by rw [HO.out]; rfl) ?_
                go_simp
                clear d0 d1 d2 d3 d4 d5 d6 d7 d8 d9 d10 d11 d12 d13 d14 d15 hdl
                first | have HSE := hid_mk (HS1.out HQ1.out HQ2.out) | have HSE := hid_mk (HS0.out (.inl (of_decide_eq_true (by assumption)))) | have HSE := hid_mk (HS0.out (.inr (of_decide_eq_true (by assumption))))
                refine planI_call1 en_Twalk4 (hi_of HO rfl) (by rw [HO.out]; rfl) rfl (by go_simp; rfl) (by first | exact IHr.out (max (i - l.size - 1) 0) (j - l.size - 1) (pre ++ segT l i (min j l.size) ++ [(k, v)]) g2 _ _ HRr.out (HW.out.trans HEN.out.en.bx) HJ2.out HB2.out HB3.out HB4.out.2 (HN3.out _ HSE.out) | exact IHr.out (max (i - l.size - 1) 0) (j - l.size - 1) (pre ++ segT l i (min j l.size) ++ []) g2 _ _ HRr.out (HW.out.trans HEN.out.en.bx) (by rw [List.append_nil]; exact HJ2.out) HB2.out HB3.out HB4.out.2 (HN3.out _ HSE.out)) ?_
                rintro e w47 hw3
                have HW3 := hid_mk (walked_r HSE.out HEN.out hw3)
                obtain ⟨b3, rfl, -, -⟩ := hw3
                refine ⟨_, rfl, ?_⟩
                simp only [Act.put, List.setIfInBounds_toArray, List.set_cons_succ, List.set_cons_zero]
                refine planI_calm _ (hi_of HO rfl) rfl (fun w' => by go_simp; rfl) (fun _ => rfl) ?_
                simp only [Act.put, List.setIfInBounds_toArray, List.set_cons_succ, List.set_cons_zero]
                refine planI_calm _ (hi_of HO rfl) rfl (fun w' => by go_simp; rfl) (fun _ => rfl) ?_
                simp only [Act.put, List.setIfInBounds_toArray, List.set_cons_succ, List.set_cons_zero]
                refine planI_done ?fin113
          case' hT106 =>
            intro hb106
            simp only [Act.put, List.setIfInBounds_toArray, List.set_cons_succ, List.set_cons_zero]
            refine planI_skip (hi_of HO rfl) (by rw [HO.out]; rfl) (fun _ => rfl) ?_
            simp only [Act.put, List.setIfInBounds_toArray, List.set_cons_succ, List.set_cons_zero]
            refine planI_skip (hi_of HO rfl) (by rw [HO.out]; rfl) (fun _ => rfl) ?_
            simp only [Act.put, List.setIfInBounds_toArray, List.set_cons_succ, List.set_cons_zero]
            refine planI_skip (hi_of HO rfl) (by rw [HO.out]; rfl) (fun _ => rfl) ?_
            simp only [Act.put, List.setIfInBounds_toArray, List.set_cons_succ, List.set_cons_zero]
            refine planI_skip (hi_of HO rfl) (by rw [HO.out]; rfl) (fun _ => rfl) ?_
            simp only [Act.put, List.setIfInBounds_toArray, List.set_cons_succ, List.set_cons_zero]
            refine planI_skip (hi_of HO rfl) (by rw [HO.out]; rfl) (fun _ => rfl) ?_
            simp only [Act.put, List.setIfInBounds_toArray, List.set_cons_succ, List.set_cons_zero]
            refine planI_skip (hi_of HO rfl) (by rw [HO.out]; rfl) (fun _ => rfl) ?_
            simp only [Act.put, List.setIfInBounds_toArray, List.set_cons_succ, List.set_cons_zero]
            refine planI_skip (hi_of HO rfl) (by rw [HO.out]; rfl) (fun _ => rfl) ?_
            simp only [Act.put, List.setIfInBounds_toArray, List.set_cons_succ, List.set_cons_zero]
            refine planI_fork ?lA114 ?lB114
            case' lA114 =>
              refine planI_skip1 (hi_of HO rfl) (by rw [HO.out]; rfl) ?_
              simp only [Act.put, List.setIfInBounds_toArray, List.set_cons_succ, List.set_cons_zero]
              refine planI_skip1 (hi_of HO rfl) (by rw [HO.out]; rfl) ?_
              simp only [Act.put, List.setIfInBounds_toArray, List.set_cons_succ, List.set_cons_zero]
              refine planI_skip1 (hi_of HO rfl) (by rw [HO.out]; rfl) ?_
              simp only [Act.put, List.setIfInBounds_toArray, List.set_cons_succ, List.set_cons_zero]
              refine planI_calm _ (hi_of HO rfl) (by rw [HO.out]; rfl) (fun w' => by go_simp; rfl) (fun _ => rfl) ?_
              simp only [Act.put, List.setIfInBounds_toArray, List.set_cons_succ, List.set_cons_zero]
              refine planI_calm _ (hi_of HO rfl) rfl (fun w' => by go_simp; rfl) (fun _ => rfl) ?_
              simp only [Act.put, List.setIfInBounds_toArray, List.set_cons_succ, List.set_cons_zero]
              refine planI_calm _ (hi_of HO rfl) rfl (fun w' => by go_simp; rfl) (fun _ => rfl) ?_
              simp only [Act.put, List.setIfInBounds_toArray, List.set_cons_succ, List.set_cons_zero]
              refine planI_calm _ (hi_of HO rfl) (by rw [HO.out]; rfl) (fun w' => by go_simp; rfl) (fun _ => rfl) ?_
              simp only [Act.put, List.setIfInBounds_toArray, List.set_cons_succ, List.set_cons_zero]
              refine planI_calm _ (hi_of HO rfl) (by rw [HO.out]; rfl) (fun w' => by go_simp; rfl) (fun _ => rfl) ?_
              simp only [Act.put, List.setIfInBounds_toArray, List.set_cons_succ, List.set_cons_zero]
              refine planI_calm _ (hi_of HO rfl) (by rw [HO.out]; rfl) (fun w' => by go_simp; rfl) (fun _ => rfl) ?_
              simp only [Act.put, List.setIfInBounds_toArray, List.set_cons_succ, List.set_cons_zero]
              refine planI_calm _ (hi_of HO rfl) (by rw [HO.out]; rfl) (fun w' => by go_simp; rfl) (fun _ => rfl) ?_
              simp only [Act.put, List.setIfInBounds_toArray, List.set_cons_succ, List.set_cons_zero]
              refine planI_calm _ (hi_of HO rfl) (by rw [HO.out]; rfl) (fun w' => by go_simp; rfl) (fun _ => rfl) ?_
              simp only [Act.put, List.setIfInBounds_toArray, List.set_cons_succ, List.set_cons_zero]
              refine planI_calm _ (hi_of HO rfl) (by rw [HO.out]; rfl) (fun w' => by go_simp; rfl) (fun _ => rfl) ?_
              simp only [Act.put, List.setIfInBounds_toArray, List.set_cons_succ, List.set_cons_zero]
              refine planI_calm _ (hi_of HO rfl) (by rw [HO.out]; rfl) (fun w' => by go_simp; rfl) (fun _ => rfl) ?_
              simp only [Act.put, List.setIfInBounds_toArray, List.set_cons_succ, List.set_cons_zero]
              refine planI_calm _ (hi_of HO rfl) (by rw [HO.out]; rfl) (fun w' => by go_simp; rfl) (fun _ => rfl) ?_
              simp only [Act.put, List.setIfInBounds_toArray, List.set_cons_succ, List.set_cons_zero]
              refine planI_calm _ (hi_of HO rfl) (by rw [HO.out]; rfl) (fun w' => by go_simp; rfl) (fun _ => rfl) ?_
              simp only [Act.put, List.setIfInBounds_toArray, List.set_cons_succ, List.set_cons_zero]
              refine planI_calm _ (hi_of HO rfl) (by rw [HO.out]; rfl) (fun w' => by go_simp; rfl) (fun _ => rfl) ?_
              simp only [Act.put, List.setIfInBounds_toArray, List.set_cons_succ, List.set_cons_zero]
              refine planI_calm _ (hi_of HO rfl) (by rw [HO.out]; rfl) (fun w' => by go_simp; rfl) (fun _ => rfl) ?_
              simp only [Act.put, List.setIfInBounds_toArray, List.set_cons_succ, List.set_cons_zero]
              refine planI_calm _ (hi_of HO rfl) (by rw [HO.out]; rfl) (fun w' => by go_simp; rfl) (fun _ => rfl) ?_
              simp only [Act.put, List.setIfInBounds_toArray, List.set_cons_succ, List.set_cons_zero]
              refine planI_calm _ (hi_of HO rfl) (by rw [HO.out]; rfl) (fun w' => by go_simp; rfl) (fun _ => rfl) ?_
              simp only [Act.put, List.setIfInBounds_toArray, List.set_cons_succ, List.set_cons_zero]
              first | obtain ⟨g2, hj2, hy2⟩ := HT2.out (by assumption) | obtain ⟨g2, hj2, hy2⟩ := HT1.out (by assumption)
              have HJ2 := hid_mk hj2
              first | have hen := ((HXD.out W).trans HG1.out.2).trans hy2 | have hen := (HXD.out W).trans hy2
              have HEN := hid_mk hen
              have hd := HND.out.bx (HW.out.trans hen.en.bx) HBN.out
              clear hen hj2 hy2
              obtain ⟨d0, d1, d2, d3, d4, d5, d6, d7, d8, d9, d10, d11, d12, d13, d14, d15⟩ := hd
              have hdl := cell_lt d0
              refine planI_loud1 (hi_of HO rfl) (by rw [HO.out]; rfl) ?_
              go_simp
              clear d0 d1 d2 d3 d4 d5 d6 d7 d8 d9 d10 d11 d12 d13 d14 d15 hdl
              first | have HSE := hid_mk (HS1.out HQ1.out HQ2.out) | have HSE := hid_mk (HS0.out (.inl (of_decide_eq_true (by assumption)))) | have HSE := hid_mk (HS0.out (.inr (of_decide_eq_true (by assumption))))
              refine planI_call1 en_Twalk4 (hi_of HO rfl) (by rw [HO.out]; rfl) rfl (by go_simp; rfl) (by first | exact IHr.out (max (i - l.size - 1) 0) (j - l.size - 1) (pre ++ segT l i (min j l.size) ++ [(k, v)]) g2 _ _ HRr.out (HW.out.trans HEN.out.en.bx) HJ2.out HB2.out HB3.out HB4.out.2 (HN3.out _ HSE.out) | exact IHr.out (max (i - l.size - 1) 0) (j - l.size - 1) (pre ++ segT l i (min j l.size) ++ []) g2 _ _ HRr.out (HW.out.trans HEN.out.en.bx) (by rw [List.append_nil]; exact HJ2.out) HB2.out HB3.out HB4.out.2 (HN3.out _ HSE.out)) ?_
              rintro e w47 hw3
              have HW3 := hid_mk (walked_r HSE.out HEN.out hw3)
              obtain ⟨b3, rfl, -, -⟩ := hw3
              refine ⟨_, rfl, ?_⟩
              simp only [Act.put, List.setIfInBounds_toArray, List.set_cons_succ, List.set_cons_zero]
              refine planI_calm _ (hi_of HO rfl) rfl (fun w' => by go_simp; rfl) (fun _ => rfl) ?_
              simp only [Act.put, List.setIfInBounds_toArray, List.set_cons_succ, List.set_cons_zero]
              refine planI_calm _ (hi_of HO rfl) rfl (fun w' => by go_simp; rfl) (fun _ => rfl) ?_
              simp only [Act.put, List.setIfInBounds_toArray, List.set_cons_succ, List.set_cons_zero]
              refine planI_done ?fin115
            case' lB114 =>
              refine planI_skip1 (hi_of HO rfl) (by rw [HO.out]; rfl) ?_
              simp only [Act.put, List.setIfInBounds_toArray, List.set_cons_succ, List.set_cons_zero]
              refine planI_skip1 (hi_of HO rfl) (by rw [HO.out]; rfl) ?_
              simp only [Act.put, List.setIfInBounds_toArray, List.set_cons_succ, List.set_cons_zero]
              refine planI_skip1 (hi_of HO rfl) (by rw [HO.out]; rfl) ?_
              simp only [Act.put, List.setIfInBounds_toArray, List.set_cons_succ, List.set_cons_zero]
              refine planI_calm _ (hi_of HO rfl) (by rw [HO.out]; rfl) (fun w' => by go_simp; rfl) (fun _ => rfl) ?_
              simp only [Act.put, List.setIfInBounds_toArray, List.set_cons_succ, List.set_cons_zero]
              refine planI_calm _ (hi_of HO rfl) rfl (fun w' => by go_simp; rfl) (fun _ => rfl) ?_
              simp only [Act.put, List.setIfInBounds_toArray, List.set_cons_succ, List.set_cons_zero]
              refine planI_calm _ (hi_of HO rfl) rfl (fun w' => by go_simp; rfl) (fun _ => rfl) ?_
              simp only [Act.put, List.setIfInBounds_toArray, List.set_cons_succ, List.set_cons_zero]
              refine planI_calm _ (hi_of HO rfl) (by rw [HO.out]; rfl) (fun w' => by go_simp; rfl) (fun _ => rfl) ?_
              simp only [Act.put, List.setIfInBounds_toArray, List.set_cons_succ, List.set_cons_zero]
              refine planI_calm _ (hi_of HO rfl) (by rw [HO.out]; rfl) (fun w' => by go_simp; rfl) (fun _ => rfl) ?_
              simp only [Act.put, List.setIfInBounds_toArray, List.set_cons_succ, List.set_cons_zero]
              refine planI_calm _ (hi_of HO rfl) (by rw [HO.out]; rfl) (fun w' => by go_simp; rfl) (fun _ => rfl) ?_
              simp only [Act.put, List.setIfInBounds_toArray, List.set_cons_succ, List.set_cons_zero]
              refine planI_calm _ (hi_of HO rfl) (by rw [HO.out]; rfl) (fun w' => by go_simp; rfl) (fun _ => rfl) ?_
              simp only [Act.put, List.setIfInBounds_toArray, List.set_cons_succ, List.set_cons_zero]
              refine planI_calm _ (hi_of HO rfl) (by rw [HO.out]; rfl) (fun w' => by go_simp; rfl) (fun _ => rfl) ?_
              simp only [Act.put, List.setIfInBounds_toArray, List.set_cons_succ, List.set_cons_zero]
              refine planI_calm _ (hi_of HO rfl) (by rw [HO.out]; rfl) (fun w' => by go_simp; rfl) (fun _ => rfl) ?_
              simp only [Act.put, List.setIfInBounds_toArray, List.set_cons_succ, List.set_cons_zero]
              refine planI_calm _ (hi_of HO rfl) (by rw [HO.out]; rfl) (fun w' => by go_simp; rfl) (fun _ => rfl) ?_
              simp only [Act.put, List.setIfInBounds_toArray, List.set_cons_succ, List.set_cons_zero]
              refine planI_calm _ (hi_of HO rfl) (by rw [HO.out]; rfl) (fun w' => by go_simp; rfl) (fun _ => rfl) ?_
              simp only [Act.put, List.setIfInBounds_toArray, List.set_cons_succ, List.set_cons_zero]
              refine planI_calm _ (hi_of HO rfl) (by rw [HO.out]; rfl) (fun w' => by go_simp; rfl) (fun _ => rfl) ?_
              simp only [Act.put, List.setIfInBounds_toArray, List.set_cons_succ, List.set_cons_zero]
              refine planI_calm _ (hi_of HO rfl) (by rw [HO.out]; rfl) (fun w' => by go_simp; rfl) (fun _ => rfl) ?_
              simp only [Act.put, List.setIfInBounds_toArray, List.set_cons_succ, List.set_cons_zero]
              refine planI_calm _ (hi_of HO rfl) (by rw [HO.out]; rfl) (fun w' => by go_simp; rfl) (fun _ => rfl) ?_
              simp only [Act.put, List.setIfInBounds_toArray, List.set_cons_succ, List.set_cons_zero]
              refine planI_calm _ (hi_of HO rfl) (by rw [HO.out]; rfl) (fun w' => by go_simp; rfl) (fun _ => rfl) ?_
              simp only [Act.put, List.setIfInBounds_toArray, List.set_cons_succ, List.set_cons_zero]
              refine planI_calm _ (hi_of HO rfl) (by rw [HO.out]; rfl) (fun w' => by go_simp; rfl) (fun _ => rfl) ?_
              simp only [Act.put, List.setIfInBounds_toArray, List.set_cons_succ, List.set_cons_zero]
              first | obtain ⟨g2, hj2, hy2⟩ := HT2.out (by assumption) | obtain ⟨g2, hj2, hy2⟩ := HT1.out (by assumption)
              have HJ2 := hid_mk hj2
              first | have hen := ((HXD.out W).trans HG1.out.2).trans hy2 | have hen := (HXD.out W).trans hy2
              have HEN := hid_mk hen
              have hd := HND.out.bx (HW.out.trans hen.en.bx) HBN.out
              clear hen hj2 hy2
              obtain ⟨d0, d1, d2, d3, d4, d5, d6, d7, d8, d9, d10, d11, d12, d13, d14, d15⟩ := hd
              have hdl := cell_lt d0
              refine planI_loud1 (hi_of HO rfl) (by rw [HO.out]; rfl) ?_
              go_simp
              clear d0 d1 d2 d3 d4 d5 d6 d7 d8 d9 d10 d11 d12 d13 d14 d15 hdl
              first | have HSE := hid_mk (HS1.out HQ1.out HQ2.out) | have HSE := hid_mk (HS0.out (.inl (of_decide_eq_true (by assumption)))) | have HSE := hid_mk (HS0.out (.inr (of_decide_eq_true (by assumption))))
              refine planI_call1 en_Twalk4 (hi_of HO rfl) (by rw [HO.out]; rfl) rfl (by go_simp; rfl) (by first | exact IHr.out (max (i - l.size - 1) 0) (j - l.size - 1) (pre ++ segT l i (min j l.size) ++ [(k, v)]) g2 _ _ HRr.out (HW.out.trans HEN.out.en.bx) HJ2.out HB2.out HB3.out HB4.out.2 (HN3.out _ HSE.out) | exact IHr.out (max (i - l.size - 1) 0) (j - l.size - 1) (pre ++ segT l i (min j l.size) ++ []) g2 _ _ HRr.out (HW.out.trans HEN.out.en.bx) (by rw [List.append_nil]; exact HJ2.out) HB2.out HB3.out HB4.out.2 (HN3.out _ HSE.out)) ?_
              rintro e w47 hw3
              have HW3 := hid_mk (walked_r HSE.out HEN.out hw3)
              obtain ⟨b3, rfl, -, -⟩ := hw3
              refine ⟨_, rfl, ?_⟩
              simp only [Act.put, List.setIfInBounds_toArray, List.set_cons_succ, List.set_cons_zero]
              refine planI_calm _ (hi_of HO rfl) rfl (fun w' => by go_simp; rfl) (fun _ => rfl) ?_
              simp only [Act.put, List.setIfInBounds_toArray, List.set_cons_succ, List.set_cons_zero]
              refine planI_calm _ (hi_of HO rfl) rfl (fun w' => by go_simp; rfl) (fun _ => rfl) ?_
              simp only [Act.put, List.setIfInBounds_toArray, List.set_cons_succ, List.set_cons_zero]
              refine planI_done ?fin116
        case' hT105 =>
          intro hb105
          simp only [Act.put, List.setIfInBounds_toArray, List.set_cons_succ, List.set_cons_zero]
          refine planI_skip (hi_of HO rfl) (by rw [HO.out]; rfl) (fun _ => rfl) ?_
          simp only [Act.put, List.setIfInBounds_toArray, List.set_cons_succ, List.set_cons_zero]
          refine planI_skip (hi_of HO rfl) (by rw [HO.out]; rfl) (fun _ => rfl) ?_
          simp only [Act.put, List.setIfInBounds_toArray, List.set_cons_succ, List.set_cons_zero]
          refine planI_skip (hi_of HO rfl) (by rw [HO.out]; rfl) (fun _ => rfl) ?_
          simp only [Act.put, List.setIfInBounds_toArray, List.set_cons_succ, List.set_cons_zero]
          refine planI_calm _ (hi_of HO rfl) (by rw [HO.out]; rfl) (fun w' => by go_simp; rfl) (fun _ => rfl) ?_
          simp only [Act.put, List.setIfInBounds_toArray, List.set_cons_succ, List.set_cons_zero]
          refine planI_calm _ (hi_of HO rfl) (by rw [HO.out]; rfl) (fun w' => by go_simp; rfl) (fun _ => rfl) ?_
          simp only [Act.put, List.setIfInBounds_toArray, List.set_cons_succ, List.set_cons_zero]
          refine planI_skip (hi_of HO rfl) (by rw [HO.out]; rfl) (fun _ => rfl) ?_
          simp only [Act.put, List.setIfInBounds_toArray, List.set_cons_succ, List.set_cons_zero]
          refine planI_skip (hi_of HO rfl) (by rw [HO.out]; rfl) (fun _ => rfl) ?_
          simp only [Act.put, List.setIfInBounds_toArray, List.set_cons_succ, List.set_cons_zero]
          refine planI_skip (hi_of HO rfl) (by rw [HO.out]; rfl) (fun _ => rfl) ?_
          simp only [Act.put, List.setIfInBounds_toArray, List.set_cons_succ, List.set_cons_zero]
          refine planI_skip (hi_of HO rfl) (by rw [HO.out]; rfl) (fun _ => rfl) ?_
          simp only [Act.put, List.setIfInBounds_toArray, List.set_cons_succ, List.set_cons_zero]
          refine planI_skip (hi_of HO rfl) (by rw [HO.out]; rfl) (fun _ => rfl) ?_
          simp only [Act.put, List.setIfInBounds_toArray, List.set_cons_succ, List.set_cons_zero]
          refine planI_skip (hi_of HO rfl) (by rw [HO.out]; rfl) (fun _ => rfl) ?_
          simp only [Act.put, List.setIfInBounds_toArray, List.set_cons_succ, List.set_cons_zero]
          refine planI_skip (hi_of HO rfl) (by rw [HO.out]; rfl) (fun _ => rfl) ?_
          simp only [Act.put, List.setIfInBounds_toArray, List.set_cons_succ, List.set_cons_zero]
          refine planI_fork ?lA117 ?lB117
          case' lA117 =>
            refine planI_skip1 (hi_of HO rfl) (by rw [HO.out]; rfl) ?_
            simp only [Act.put, List.setIfInBounds_toArray, List.set_cons_succ, List.set_cons_zero]
            refine planI_skip1 (hi_of HO rfl) (by rw [HO.out]; rfl) ?_
            simp only [Act.put, List.setIfInBounds_toArray, List.set_cons_succ, List.set_cons_zero]
            refine planI_skip1 (hi_of HO rfl) (by rw [HO.out]; rfl) ?_
            simp only [Act.put, List.setIfInBounds_toArray, List.set_cons_succ, List.set_cons_zero]
            refine planI_calm _ (hi_of HO rfl) (by rw [HO.out]; rfl) (fun w' => by go_simp; rfl) (fun _ => rfl) ?_
            simp only [Act.put, List.setIfInBounds_toArray, List.set_cons_succ, List.set_cons_zero]
            refine planI_calm _ (hi_of HO rfl) rfl (fun w' => by go_simp; rfl) (fun _ => rfl) ?_
            simp only [Act.put, List.setIfInBounds_toArray, List.set_cons_succ, List.set_cons_zero]
            refine planI_calm _ (hi_of HO rfl) rfl (fun w' => by go_simp; rfl) (fun _ => rfl) ?_
            simp only [Act.put, List.setIfInBounds_toArray, List.set_cons_succ, List.set_cons_zero]
            refine planI_calm _ (hi_of HO rfl) (by rw [HO.out]; rfl) (fun w' => by go_simp; rfl) (fun _ => rfl) ?_
            simp only [Act.put, List.setIfInBounds_toArray, List.set_cons_succ, List.set_cons_zero]
            refine planI_calm _ (hi_of HO rfl) (by rw [HO.out]; rfl) (fun w' => by go_simp; rfl) (fun _ => rfl) ?_
            simp only [Act.put, List.setIfInBounds_toArray, List.set_cons_succ, List.set_cons_zero]
            refine planI_calm _ (hi_of HO rfl) (by rw [HO.out]; rfl) (fun w' => by go_simp; rfl) (fun _ => rfl) ?_
            simp only [Act.put, List.setIfInBounds_toArray, List.set_cons_succ, List.set_cons_zero]
            refine planI_calm _ (hi_of HO rfl) (by rw [HO.out]; rfl) (fun w' => by go_simp; rfl) (fun _ => rfl) ?_
            simp only [Act.put, List.setIfInBounds_toArray, List.set_cons_succ, List.set_cons_zero]
            refine planI_calm _ (hi_of HO rfl) (by rw [HO.out]; rfl) (fun w' => by go_simp; rfl) (fun _ => rfl) ?_
            simp only [Act.put, List.setIfInBounds_toArray, List.set_cons_succ, List.set_cons_zero]
            refine planI_calm _ (hi_of HO rfl) (by rw [HO.out]; rfl) (fun w' => by go_simp; rfl) (fun _ => rfl) ?_
            simp only [Act.put, List.setIfInBounds_toArray, List.set_cons_succ, List.set_cons_zero]
            refine planI_calm _ (hi_of HO rfl) (by rw [HO.out]; rfl) (fun w' => by go_simp; rfl) (fun _ => rfl) ?_
            simp only [Act.put, List.setIfInBounds_toArray, List.set_cons_succ, List.set_cons_zero]
            refine planI_calm _ (hi_of HO rfl) (by rw [HO.out]; rfl) (fun w' => by go_simp; rfl) (fun _ => rfl) ?_
            simp only [Act.put, List.setIfInBounds_toArray, List.set_cons_succ, List.set_cons_zero]
            refine planI_calm _ (hi_of HO rfl) (by rw [HO.out]; rfl) (fun w' => by go_simp; rfl) (fun _ => rfl) ?_
            simp only [Act.put, List.setIfInBounds_toArray, List.set_cons_succ, List.set_cons_zero]
            refine planI_calm _ (hi_of HO rfl) (by rw [HO.out]; rfl) (fun w' => by go_simp; rfl) (fun _ => rfl) ?_
            simp only [Act.put, List.setIfInBounds_toArray, List.set_cons_succ, List.set_cons_zero]
            refine planI_calm _ (hi_of HO rfl) (by rw [HO.out]; rfl) (fun w' => by go_simp; rfl) (fun _ => rfl) ?_
            simp only [Act.put, List.setIfInBounds_toArray, List.set_cons_succ, List.set_cons_zero]
            refine planI_calm _ (hi_of HO rfl) (by rw [HO.out]; rfl) (fun w' => by go_simp; rfl) (fun _ => rfl) ?_
            simp only [Act.put, List.setIfInBounds_toArray, List.set_cons_succ, List.set_cons_zero]
            refine planI_calm _ (hi_of HO rfl) (by rw [HO.out]; rfl) (fun w' => by go_simp; rfl) (fun _ => rfl) ?_
            simp only [Act.put, List.setIfInBounds_toArray, List.set_cons_succ, List.set_cons_zero]
            first | obtain ⟨g2, hj2, hy2⟩ := HT2.out (by assumption) | obtain ⟨g2, hj2, hy2⟩ := HT1.out (by assumption)
            have HJ2 := hid_mk hj2
            first | have hen := ((HXD.out W).trans HG1.out.2).trans hy2 | have hen := (HXD.out W).trans hy2
            have HEN := hid_mk hen
            have hd := HND.out.bx (HW.out.trans hen.en.bx) HBN.out
            clear hen hj2 hy2
            obtain ⟨d0, d1, d2, d3, d4, d5, d6, d7, d8, d9, d10, d11, d12, d13, d14, d15⟩ := hd
            have hdl := cell_lt d0
            refine planI_loud1 (hi_of HO rfl) (by rw [HO.out]; rfl) ?_
            go_simp
            clear d0 d1 d2 d3 d4 d5 d6 d7 d8 d9 d10 d11 d12 d13 d14 d15 hdl
            first | have HSE := hid_mk (HS1.out HQ1.out HQ2.out) | have HSE := hid_mk (HS0.out (.inl (of_decide_eq_true (by assumption)))) | have HSE := hid_mk (HS0.out (.inr (of_decide_eq_true (by assumption))))
            refine planI_call1 en_Twalk4 (hi_of HO rfl) (by rw [HO.out]; rfl) rfl (by go_simp; rfl) (by first | exact IHr.out (max (i - l.size - 1) 0) (j - l.size - 1) (pre ++ segT l i (min j l.size) ++ [(k, v)]) g2 _ _ HRr.out (HW.out.trans HEN.out.en.bx) HJ2.out HB2.out HB3.out HB4.out.2 (HN3.out _ HSE.out) | exact IHr.out (max (i - l.size - 1) 0) (j - l.size - 1) (pre ++ segT l i (min j l.size) ++ []) g2 _ _ HRr.out (HW.out.trans HEN.out.en.bx) (by rw [List.append_nil]; exact HJ2.out) HB2.out HB3.out HB4.out.2 (HN3.out _ HSE.out)) ?_
            rintro e w47 hw3
            have HW3 := hid_mk (walked_r HSE.out HEN.out hw3)
            obtain ⟨b3, rfl, -, -⟩ := hw3
            refine ⟨_, rfl, ?_⟩
            simp only [Act.put, List.setIfInBounds_toArray, List.set_cons_succ, List.set_cons_zero]
            refine planI_calm _ (hi_of HO rfl) rfl (fun w' => by go_simp; rfl) (fun _ => rfl) ?_
            simp only [Act.put, List.setIfInBounds_toArray, List.set_cons_succ, List.set_cons_zero]
            refine planI_calm _ (hi_of HO rfl) rfl (fun w' => by go_simp; rfl) (fun _ => rfl) ?_
            simp only [Act.put, List.setIfInBounds_toArray, List.set_cons_succ, List.set_cons_zero]
            refine planI_done ?fin118
          case' lB117 =>
            refine planI_skip1 (hi_of HO rfl) (by rw [HO.out]; rfl) ?_
            simp only [Act.put, List.setIfInBounds_toArray, List.set_cons_succ, List.set_cons_zero]
            refine planI_skip1 (hi_of HO rfl) (by rw [HO.out]; rfl) ?_
            simp only [Act.put, List.setIfInBounds_toArray, List.set_cons_succ, List.set_cons_zero]
            refine planI_skip1 (hi_of HO rfl) (by rw [HO.out]; rfl) ?_
            simp only [Act.put, List.setIfInBounds_toArray, List.set_cons_succ, List.set_cons_zero]
            refine planI_calm _ (hi_of HO rfl) (by rw [HO.out]; rfl) (fun w' => by go_simp; rfl) (fun _ => rfl) ?_
            simp only [Act.put, List.setIfInBounds_toArray, List.set_cons_succ, List.set_cons_zero]
            refine planI_calm _ (hi_of HO rfl) rfl (fun w' => by go_simp; rfl) (fun _ => rfl) ?_
            simp only [Act.put, List.setIfInBounds_toArray, List.set_cons_succ, List.set_cons_zero]
            refine planI_calm _ (hi_of HO rfl) rfl (fun w' => by go_simp; rfl) (fun _ => rfl) ?_
            simp only [Act.put, List.setIfInBounds_toArray, List.set_cons_succ, List.set_cons_zero]
            refine planI_calm _ (hi_of HO rfl) (by rw [HO.out]; rfl) (fun w' => by go_simp; rfl) (fun _ => rfl) ?_
            simp only [Act.put, List.setIfInBounds_toArray, List.set_cons_succ, List.set_cons_zero]
            refine planI_calm _ (hi_of HO rfl) (by rw [HO.out]; rfl) (fun w' => by go_simp; rfl) (fun _ => rfl) ?_
            simp only [Act.put, List.setIfInBounds_toArray, List.set_cons_succ, List.set_cons_zero]
            refine planI_calm _ (hi_of HO rfl) (by rw [HO.out]; rfl) (fun w' => by go_simp; rfl) (fun _ => rfl) ?_
            simp only [Act.put, List.setIfInBounds_toArray, List.set_cons_succ, List.set_cons_zero]
            refine planI_calm _ (hi_of HO rfl) (by rw [HO.out]; rfl) (fun w' => by go_simp; rfl) (fun _ => rfl) ?_
            simp only [Act.put, List.setIfInBounds_toArray, List.set_cons_succ, List.set_cons_zero]
            refine planI_calm _ (hi_of HO rfl) (by rw [HO.out]; rfl) (fun w' => by go_simp; rfl) (fun _ => rfl) ?_
            simp only [Act.put, List.setIfInBounds_toArray, List.set_cons_succ, List.set_cons_zero]
            refine planI_calm _ (hi_of HO rfl) (by rw [HO.out]; rfl) (fun w' => by go_simp; rfl) (fun _ => rfl) ?_
            simp only [Act.put, List.setIfInBounds_toArray, List.set_cons_succ, List.set_cons_zero]
            refine planI_calm _ (hi_of HO rfl) (by rw [HO.out]; rfl) (fun w' => by go_simp; rfl) (fun _ => rfl) ?_
            simp only [Act.put, List.setIfInBounds_toArray, List.set_cons_succ, List.set_cons_zero]
            refine planI_calm _ (hi_of HO rfl) (by rw [HO.out]; rfl) (fun w' => by go_simp; rfl) (fun _ => rfl) ?_
            simp only [Act.put, List.setIfInBounds_toArray, List.set_cons_succ, List.set_cons_zero]
            refine planI_calm _ (hi_of HO rfl) (by rw [HO.out]; rfl) (fun w' => by go_simp; rfl) (fun _ => rfl) ?_
            simp only [Act.put, List.setIfInBounds_toArray, List.set_cons_succ, List.set_cons_zero]
            refine planI_calm _ (hi_of HO rfl) (by rw [HO.out]; rfl) (fun w' => by go_simp; rfl) (fun _ => rfl) ?_
            simp only [Act.put, List.setIfInBounds_toArray, List.set_cons_succ, List.set_cons_zero]
            refine planI_calm _ (hi_of HO rfl) (by rw [HO.out]; rfl) (fun w' => by go_simp; rfl) (fun _ => rfl) ?_
            simp only [Act.put, List.setIfInBounds_toArray, List.set_cons_succ, List.set_cons_zero]
            refine planI_calm _ (hi_of HO rfl) (by rw [HO.out]; rfl) (fun w' => by go_simp; rfl) (fun _ => rfl) ?_
            simp only [Act.put, List.setIfInBounds_toArray, List.set_cons_succ, List.set_cons_zero]
            refine planI_calm _ (hi_of HO rfl) (by rw [HO.out]; rfl) (fun w' => by go_simp; rfl) (fun _ => rfl) ?_
            simp only [Act.put, List.setIfInBounds_toArray, List.set_cons_succ, List.set_cons_zero]
            first | obtain ⟨g2, hj2, hy2⟩ := HT2.out (by assumption) | obtain ⟨g2, hj2, hy2⟩ := HT1.out (by assumption)
            have HJ2 := hid_mk hj2
            first | have hen := ((HXD.out W).trans HG1.out.2).trans hy2 | have hen := (HXD.out W).trans hy2
            have HEN := hid_mk hen
            have hd := HND.out.bx (HW.out.trans hen.en.bx) HBN.out
            clear hen hj2 hy2
            obtain ⟨d0, d1, d2, d3, d4, d5, d6, d7, d8, d9, d10, d11, d12, d13, d14, d15⟩ := hd
            have hdl := cell_lt d0
            refine planI_loud1 (hi_of HO rfl) (by rw [HO.out]; rfl) ?_
            go_simp
            clear d0 d1 d2 d3 d4 d5 d6 d7 d8 d9 d10 d11 d12 d13 d14 d15 hdl
            first | have HSE := hid_mk (HS1.out HQ1.out HQ2.out) | have HSE := hid_mk (HS0.out (.inl (of_decide_eq_true (by assumption)))) | have HSE := hid_mk (HS0.out (.inr (of_decide_eq_true (by assumption))))
            refine planI_call1 en_Twalk4 (hi_of HO rfl) (by rw [HO.out]; rfl) rfl (by go_simp; rfl) (by first | exact IHr.out (max (i - l.size - 1) 0) (j - l.size - 1) (pre ++ segT l i (min j l.size) ++ [(k, v)]) g2 _ _ HRr.out (HW.out.trans HEN.out.en.bx) HJ2.out HB2.out HB3.out HB4.out.2 (HN3.out _ HSE.out) | exact IHr.out (max (i - l.size - 1) 0) (j - l.size - 1) (pre ++ segT l i (min j l.size) ++ []) g2 _ _ HRr.out (HW.out.trans HEN.out.en.bx) (by rw [List.append_nil]; exact HJ2.out) HB2.out HB3.out HB4.out.2 (HN3.out _ HSE.out)) ?_
            rintro e w47 hw3
            have HW3 := hid_mk (walked_r HSE.out HEN.out hw3)
            obtain ⟨b3, rfl, -, -⟩ := hw3
            refine ⟨_, rfl, ?_⟩
            simp only [Act.put, List.setIfInBounds_toArray, List.set_cons_succ, List.set_cons_zero]
            refine planI_calm _ (hi_of HO rfl) rfl (fun w' => by go_simp; rfl) (fun _ => rfl) ?_
            simp only [Act.put, List.setIfInBounds_toArray, List.set_cons_succ, List.set_cons_zero]
            refine planI_calm _ (hi_of HO rfl) rfl (fun w' => by go_simp; rfl) (fun _ => rfl) ?_
            simp only [Act.put, List.setIfInBounds_toArray, List.set_cons_succ, List.set_cons_zero]
            refine planI_done ?fin119
      all_goals gi_wp2
      all_goals first
        | exact bodyPost_ret (v := .bool _) (by unfold results; rw [Tryd.results113]; go_simp; first | done | rfl) rfl HW3.out
        | exact bodyPost_ret (v := .bool false) (by unfold results; rw [Tryd.results113]; go_simp; first | done | rfl) rfl (walked_m (HS1.out HQ1.out HQ2.out) (HF2.out (by assumption)).1)
        | exact bodyPost_ret (v := .bool false) (by unfold results; rw [Tryd.results113]; go_simp; first | done | rfl) rfl (walked_l HSG.out (HF1.out (by assumption)))
end Go.Proofs.YtokcgnbjkbhmiaaDoor
namespace Go.Proofs.YtokcgnbjkbhmiaaDoor
open Go.RowKit Go.Lib
set_option maxHeartbeats 4000000
set_option maxRecDepth 100000
set_option linter.unusedSimpArgs false
set_option linter.unusedVariables false
attribute [local go_sem] Oper.semAt_some
theorem en_TSpan4 : Enters Tryd.prog 75 := ⟨_, Tryd.func75, by kernel_rfl, rfl⟩
theorem en_TSpanC4 : Enters Tryd.prog 112 := ⟨_, Tryd.func112, by kernel_rfl, rfl⟩
theorem en_stAll : Enters Tryd.prog 48 := ⟨_, Tryd.func48, by kernel_rfl, rfl⟩
theorem en_stAllC : Enters Tryd.prog 94 := ⟨_, Tryd.func94, by kernel_rfl, rfl⟩
theorem en_s8Held : Enters Tryd.prog 28 := ⟨_, Tryd.func28, by kernel_rfl, rfl⟩
theorem belowX_rd {B : Nat} {L : List Nat} {W W' : World} (h : BelowX B L W W') {b o : Nat} {v : Value} (hc : W.cell? ⟨b, o, none⟩ = some v) (hb : b < B) (hn : b ∉ L) : W'.cell? ⟨b, o, none⟩ = some v := by
  unfold World.cell? at hc ⊢
  rw [h.block b hb hn]
  exact hc
theorem gen_actI {P : Program} {F : Fence} {n : Nat} {c : Code} {Q : Exit → Act → World → Prop} {T : Array Value} {ds : List Deferred} {w : World} (h : ∀ A : Array Value, Hid (A = T) → c.wpIn F n P Q { tmps := A, defers := ds } w) : c.wpIn F n P Q { tmps := T, defers := ds } w := h T (hid_mk rfl)
/-- What a Span's iterator reads: the tree's root, from, to. -/
structure SpanAt (w : World) (L : List Nat) (nb ib jb : Nat) (pv : Value) (T : T4) (i j : Int) : Prop where
  cn : w.cell? ⟨nb, 0, none⟩ = some pv
  ci : w.cell? ⟨ib, 0, none⟩ = some (.int .i64 i)
  cj : w.cell? ⟨jb, 0, none⟩ = some (.int .i64 j)
  nn : nb ∉ L
  ni : ib ∉ L
  nj : jb ∉ L
  tr : ∃ Sp JJ z, IsTree4 Sp JJ z w pv T
  hi : 0 ≤ i ∧ i ≤ 2305843009213693952
  hj : -2305843009213693952 + (T.size : Int) ≤ j ∧ j ≤ 2305843009213693952
  hz : T.size ≤ 1152921504606846976
  hL : ∀ b, b ∈ L → NoNode w b
theorem span_seq {w W : World} {L : List Nat} {nb ib jb : Nat} {pv : Value} {T : T4} {i j : Int} (h : SpanAt w L nb ib jb pv T i j) (hW : BelowX w.heap.size L w W) :
    SeqN Tryd.prog 112 #[.pointer (some ⟨nb, 0, none⟩), .pointer (some ⟨ib, 0, none⟩), .pointer (some ⟨jb, 0, none⟩)] encKV w.heap.size L (segT T i j) W := by
  intro lp g0 J Jx hJ hJx hg0 hY h0
  obtain ⟨Sp, JJ, z, hT⟩ := h.tr
  have hn := belowX_rd hW h.cn (cell_lt h.cn) h.nn
  have hi := belowX_rd hW h.ci (cell_lt h.ci) h.ni
  have hj := belowX_rd hW h.cj (cell_lt h.cj) h.nj
  have hnl := cell_lt hn
  have hil := cell_lt hi
  have hjl := cell_lt hj
  have HC := hid_mk (walk_any hY h.hL (fun s X Y h hx => hJ s X Y none h (grown_of_ext hx none) (by simp)) T pv i j [] g0 W 0 hT hW h0 h.hi h.hj h.hz (by simp))
  clear hY h0 hJ hJx hT h hW
  refine callsIn_of_wp Tryd.func112 rfl trivial ?_ rfl
  simp only [Tryd.ntmps112, List.size_toArray, List.length_cons, List.length_nil, Nat.reduceAdd, Nat.reduceSub, Array.replicate_succ, Array.replicate_zero, List.push_toArray, List.append_toArray, List.nil_append, List.cons_append]
  gi_wp2_with fail
  refine ⟨trivial, rfl, CallsIn.mono (callsIn_wide_any HC.out) ?_⟩
  rintro e W' ⟨b, rfl, hT, hF⟩
  gi_wp2
  refine bodyPost_end (results_none rfl _ _ _) rfl ⟨⟨_, rfl⟩, ?_⟩
  cases b with
  | true => exact .inl (by obtain ⟨g', h1, -⟩ := hT rfl; exact ⟨g', by simpa using h1⟩)
  | false =>
    obtain ⟨a, c, h1, h2⟩ := hF rfl
    exact .inr ⟨a, c, h1, by simpa using h2⟩
theorem en_own {X Y : World} {b : Nat} {e : Ent} {row : Option Nat} (h : EnB4 X b e) (hg : X.grownBy Y row) (hr : ∀ r, row = some r → ∃ o : Obj, X.heap[r]? = some o ∧ o.isCells = false) : EnB4 Y b e :=
  ⟨(hg.block b h.lt (fun e' => by obtain ⟨o, h1, h2⟩ := hr b e'.symm; rw [h.b] at h1; cases h1; cases h2)).trans h.b⟩
theorem bx_own {B : Nat} {L : List Nat} {w X Y : World} {row : Option Nat} (h : BelowX B L w X) (hg : X.grownBy Y row) (hB : B ≤ X.heap.size) (hr : ∀ r, row = some r → B ≤ r) : BelowX B L w Y :=
  ⟨hg.os.trans h.os, hg.tape.trans h.tape, hg.output.trans h.output, Nat.le_trans h.size hg.size, fun k hk hn => (hg.block k (by omega) (fun e => by have := hr k e.symm; omega)).trans (h.block k hk hn)⟩
/-- A variable of the call's own that holds a value of one cell. -/
def OneAt (W : World) (b : Nat) (v : Value) : Prop := ∃ t, W.heap[b]? = some (.cells #[v] t (0, 0))
namespace OneAt
variable {X Y : World} {b : Nat} {v : Value}
theorem c (h : OneAt X b v) : X.cell? ⟨b, 0, none⟩ = some v := by obtain ⟨t, h⟩ := h; simp [World.cell?, h]
theorem f (h : OneAt X b v) : X.frozen? ⟨b, 0, none⟩ = false := by obtain ⟨t, h⟩ := h; simp [World.frozen?, h]
theorem lt (h : OneAt X b v) : b < X.heap.size := by obtain ⟨t, h⟩ := h; exact (Array.getElem?_eq_some_iff.1 h).1
theorem ext (h : OneAt X b v) (hx : Ext X Y) : OneAt Y b v := by obtain ⟨t, h1⟩ := h; exact ⟨t, (hx.below.block b (Array.getElem?_eq_some_iff.1 h1).1).trans h1⟩
theorem own (h : OneAt X b v) {row : Option Nat} (hg : X.grownBy Y row) (hr : ∀ r, row = some r → ∃ o : Obj, X.heap[r]? = some o ∧ o.isCells = false) : OneAt Y b v := by
  obtain ⟨t, h1⟩ := h
  exact ⟨t, (hg.block b (Array.getElem?_eq_some_iff.1 h1).1 (fun e' => by obtain ⟨o, h2, h3⟩ := hr b e'.symm; rw [h1] at h2; cases h2; cases h3)).trans h1⟩
theorem set (h : OneAt X b v) (u : Value) : OneAt (X.setCell ⟨b, 0, none⟩ u) b u := by obtain ⟨t, h1⟩ := h; exact ⟨t, by rw [heap_setCell_same _ _ _ _ _ _ h1]; rfl⟩
end OneAt
abbrev encEn (e : Ent) : Array Value := #[entV e]
/-- A store's iterator over a range. -/
theorem all_seq {w W : World} {L : List Nat} {rb nb ib jb : Nat} {pv : Value} {T : T4} {i j : Int} (h : SpanAt w L nb ib jb pv T i j) (hr : w.cell? ⟨rb, 0, none⟩ = some (.func (.func 112) #[] #[.pointer (some ⟨nb, 0, none⟩), .pointer (some ⟨ib, 0, none⟩), .pointer (some ⟨jb, 0, none⟩)])) (hrn : rb ∉ L)
    (hW : BelowX w.heap.size L w W) :
    SeqN Tryd.prog 94 #[.pointer (some ⟨rb, 0, none⟩)] encEn w.heap.size L ((segT T i j).map Prod.snd) W := by
  intro lp g0 J Jx hJ hJx hg0 hY h0
  have hrc := belowX_rd hW hr (cell_lt hr) hrn
  have hrl := cell_lt hrc
  have HH := hid_mk h
  have HW := hid_mk hW
  have HY := hid_mk hY
  have HJ := hid_mk (And.intro hJ hJx)
  have H0 := hid_mk h0
  have HG0 := hid_mk hg0
  clear hg0
  clear h hW hY hJ hJx h0 hr
  refine callsIn_of_wp_marks Tryd.func94 rfl trivial ?_ rfl
  simp only [Tryd.ntmps94, List.size_toArray, List.length_cons, List.length_nil, Nat.reduceAdd, Nat.reduceSub, Array.replicate_succ, Array.replicate_zero, List.push_toArray, List.append_toArray, List.nil_append, List.cons_append]
  gi_wp2_with fail
  have hyb : OneAt (W.alloc (.cells #[.func (.yield lp) #[] #[]] 153)) W.heap.size (.func (.yield lp) #[] #[]) := ⟨_, heap_alloc_new W _⟩
  have hxa : Ext W (W.alloc (.cells #[.func (.yield lp) #[] #[]] 153)) := by (repeat (first | exact Ext.refl _ | apply Ext.drew_left | apply Ext.drew | apply Ext.alloc))
  have hza : (W.alloc (.cells #[.func (.yield lp) #[] #[]] 153)).heap.size = W.heap.size + 1 := by simp
  generalize W.alloc (.cells #[.func (.yield lp) #[] #[]] 153) = Wr at hyb hxa hza ⊢
  obtain ⟨yb, hyb'⟩ : ∃ yb, W.heap.size = yb := ⟨_, rfl⟩
  have HYB := hid_mk hyb'
  simp only [hyb'] at hyb hza ⊢
  have HXA := hid_mk hxa
  have HYBx := hid_mk hyb
  have HZA := hid_mk hza
  have HBW := hid_mk (show w.heap.size ≤ Wr.heap.size from Nat.le_trans HW.out.size hxa.below.size)
  clear hyb hxa hza hyb' hrc hrl
  refine gen_actI (fun TM HT => ?_)
  refine rangeN (B := w.heap.size) (L := L) (gf := 112) (lb := #[.pointer (some ⟨nb, 0, none⟩), .pointer (some ⟨ib, 0, none⟩), .pointer (some ⟨jb, 0, none⟩)]) (by rw [HT.out]; rfl) (enters_of Tryd.func112 (by kernel_rfl) rfl) (encs := encKV) HBW.out (xs := segT T i j)
    (fun X hX => span_seq HH.out (HW.out.trans (.of ((HXA.out.below.mono HW.out.size).trans (hX.mono HBW.out))))) (fun _ => rfl)
    (fun pg X => J (pg.1.map Prod.snd, pg.2) X ∧ OneAt X yb (.func (.yield lp) #[] #[]) ∧ BelowX w.heap.size L w X ∧ yb ≠ pg.2)
    (fun c pre X => c = .ret ∧ Jx (pre.map Prod.snd) X)
    (fun s X Y row h hg hr => ⟨HJ.out.1 _ X Y row h.1 hg (fun r e => ⟨Nat.le_trans HXA.out.below.size (hr r e).1, (hr r e).2⟩), h.2.1.own hg (fun r e => (hr r e).2), bx_own h.2.2.1 hg h.2.2.1.size (fun r e => Nat.le_trans HBW.out (hr r e).1), h.2.2.2⟩)
    (fun c s X Y row h hg hr => ⟨h.1, HJ.out.2 _ X Y row h.2 hg (fun r e => ⟨Nat.le_trans HXA.out.below.size (hr r e).1, (hr r e).2⟩)⟩)
    g0 (by have := HG0.out; have := HZA.out; have := HYB.out; omega)
    ⟨HJ.out.1 _ _ _ none H0.out (grown_of_ext HXA.out none) (by simp), HYBx.out, HW.out.trans (.of (HXA.out.below.mono HW.out.size)), by have := HG0.out; have := HYB.out; omega⟩
    (fun pg x a' X => ∃ b4, J (pg.1.map Prod.snd, pg.2) X ∧ OneAt X yb (.func (.yield lp) #[] #[]) ∧ BelowX w.heap.size L w X ∧ yb ≠ pg.2 ∧ EnB4 X b4 x.2 ∧ Hid (a' = { tmps := (Array.foldl (fun t (x : Nat × Value) => t.setIfInBounds x.1 x.2) TM (#[6, 7].zip (encKV x))).setIfInBounds 4 (.pointer (some ⟨b4, 0, none⟩)), defers := [] }))
    (fun pg x a' _ X Y row hs hg hr => by
      obtain ⟨b4, h1, h2, h3, h3b, h4, h5⟩ := hs
      exact ⟨b4, HJ.out.1 _ X Y row h1 hg (fun r e => ⟨Nat.le_trans HXA.out.below.size (hr r e).1, (hr r e).2⟩), h2.own hg (fun r e => (hr r e).2), bx_own h3 hg h3.size (fun r e => Nat.le_trans HBW.out (hr r e).1), h3b, en_own h4 hg (fun r e => (hr r e).2), h5⟩)
    ?assign ?body ?done ?stop
  case assign =>
    rintro l pg x X ⟨h1, h2, h3, h3b⟩
    rw [fold2, HT.out]
    simp only [List.setIfInBounds_toArray, List.set_cons_succ, List.set_cons_zero]
    gi_wp2
    have hx : Ext X (X.alloc (.cells #[.string x.2.key, .int .i64 x.2.ctr, .int .i64 x.2.node, .string x.2.val, .bool x.2.dead] 57)) := by (repeat (first | exact Ext.refl _ | apply Ext.drew_left | apply Ext.drew | apply Ext.alloc))
    exact ⟨hx, X.heap.size, HJ.out.1 _ _ _ none h1 (grown_of_ext hx none) (by simp), h2.ext hx, h3.trans (.of (hx.below.mono h3.size)), h3b, EnB4.new X x.2, hid_mk (by first | rfl | (rw [HT.out]; rfl))⟩
  case body =>
    rintro l pre g x a' X ⟨b4, h1, h2, h3, h3b, h4, ha⟩ hlt
    rw [ha.out, fold2, HT.out]
    simp only [List.setIfInBounds_toArray, List.set_cons_succ, List.set_cons_zero]
    have HX1 := hid_mk h1
    have HX3 := hid_mk h3
    have HX3b := hid_mk h3b
    have y0 := h2.c
    have yl := h2.lt
    have a0 := h4.c0
    have a1 := h4.c1
    have a2 := h4.c2
    have a3 := h4.c3
    have a4 := h4.c4
    have al := h4.lt
    have HX2 := hid_mk h2
    clear h1 h2 h3 h3b h4 ha
    gi_wp2_with fail
    obtain ⟨fn, tm2, asg, bod, hyd, hR⟩ := HY.out (pre.map Prod.snd) g x.2 X HX1.out (by simpa using hlt)
    dsimp only [encEn, entV] at hyd
    rw [hyd]
    clear hyd
    gi_wp2_with fail
    refine ⟨rfl, RoundIn.mono hR ?_⟩
    rintro e X2 ⟨b, rfl, hT, hF⟩
    have HTT := hid_mk hT
    have HFF := hid_mk hF
    clear hT hF y0 yl a0 a1 a2 a3 a4 al
    cases b with
    | true =>
      gi_wp2
      obtain ⟨g', hj, hy⟩ := HTT.out trivial
      have hyb2 : OneAt X2 yb (.func (.yield lp) #[] #[]) := by
        obtain ⟨t, ht⟩ := HX2.out
        exact ⟨t, (hy.fr yb (by have := HYB.out; omega) HX2.out.lt HX3b.out).trans ht⟩
      refine ⟨g', hy.mono (by have := HZA.out; have := HYB.out; omega), by simpa using hj, hyb2, HX3.out.trans hy.en.bx, ?_⟩
      rcases hy.gh with e | e
      · rw [e]; exact HX3b.out
      · have := HX2.out.lt; omega
    | false =>
      gi_wp2
      have h2 := HFF.out trivial
      exact ⟨kf_mono h2.2 HXA.out.below.size, rfl, by simpa using h2.1⟩
  case done =>
    rintro D g' X hD ⟨h1, -⟩ hK
    show LeavesInM Fence.wide 0 Tryd.prog Tryd.f94 _ _ _ _ _
    refine ⟨by simp, .inl ⟨_, _, rfl, run_takeDeferred hK, ?_⟩⟩
    refine ⟨.tuple #[], by unfold results; rw [Tryd.results94]; simp [go_sem], ⟨_, rfl⟩, ?_⟩
    exact .inl ⟨g', HJ.out.1.putObj _ h1 (Nat.le_trans HXA.out.below.size hD) hK rfl⟩
  case stop =>
    rintro D c pre rest X hD hx ⟨rfl, h1⟩ hK
    gi_wp2
    show LeavesInM Fence.wide 0 Tryd.prog Tryd.f94 _ _ _ _ _
    refine ⟨by simp, .inl ⟨_, _, rfl, run_takeDeferred hK, ?_⟩⟩
    refine ⟨.tuple #[], by unfold results; rw [Tryd.results94]; simp [go_sem], ⟨_, rfl⟩, ?_⟩
    exact .inr ⟨pre.map Prod.snd, rest.map Prod.snd, by rw [hx, List.map_append], HJ.out.2.putObj _ h1 (Nat.le_trans HXA.out.below.size hD) hK rfl⟩
end Go.Proofs.YtokcgnbjkbhmiaaDoor
