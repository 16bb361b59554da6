/- Rows in memory; a place among some; a tree of rows that are put one behind the other. -/
import Derived.Test.YtgglbohcnlcagaaTI1
import Derived.Test.YtgglbohcnlcagaaTH1
import Derived.Test.YtgglbohcnlcagaaTJ
import Derived.Test.YtgglbohcnlcagaaTM
namespace Go.Proofs.Ytgglbohcnlcagaa
open Go.RowKit
set_option maxHeartbeats 2000000
set_option maxRecDepth 100000
set_option linter.unusedSimpArgs false
set_option linter.unusedVariables false
theorem en_Tamong : Enters Try.prog 36 := ⟨_, Try.func36, by kernel_rfl, rfl⟩
theorem en_Tgrown : Enters Try.prog 34 := ⟨_, Try.func34, by kernel_rfl, rfl⟩

abbrev R1 := Rw Int (Int × Int)
/-- Rows behind one another. -/
def RowsAt (w : World) (b o : Nat) (L : List R1) : Prop := ∀ i, (h : i < L.length) →
  w.cell? ⟨b, o + i * 4, none⟩ = some (.string L[i].1) ∧ w.cell? ⟨b, o + i * 4 + 1, none⟩ = some (.int .i64 L[i].2.1) ∧ w.cell? ⟨b, o + i * 4 + 2, none⟩ = some (.int .u64 L[i].2.2.1) ∧ w.cell? ⟨b, o + i * 4 + 3, none⟩ = some (.int .u64 L[i].2.2.2)
theorem RowsAt.xt {Sp : Option Nat} {w w' : World} {b o : Nat} {L : List R1} (h : RowsAt w b o L) (hx : Xt Sp w w') (hn : Sp ≠ some b) : RowsAt w' b o L := fun i hi =>
  ⟨hx.rd (h i hi).1 hn, hx.rd (h i hi).2.1 hn, hx.rd (h i hi).2.2.1 hn, hx.rd (h i hi).2.2.2 hn⟩
def RowsSl (w : World) (v : Value) (L : List R1) : Prop := ∃ a c, v = .slice a L.length c ∧ L.length ≤ c ∧ L.length ≤ 4398046511104 ∧ (0 < L.length → ∃ b o, a = some ⟨b, o, none⟩ ∧ RowsAt w b o L)
theorem RowsSl.ext {w w' : World} {v : Value} {L : List R1} (h : RowsSl w v L) (hx : Ext w w') : RowsSl w' v L := by
  obtain ⟨a, c, h1, h2, h3, h4⟩ := h
  refine ⟨a, c, h1, h2, h3, fun hp => ?_⟩
  obtain ⟨b, o, e, h5⟩ := h4 hp
  exact ⟨b, o, e, h5.xt (Xt.of hx : Xt none _ _) (by simp)⟩
def puts (L : List R1) (T : T1) : T1 := L.foldl (fun T r => T.put r.1 r.2.1 r.2.2) T
theorem puts_size (L : List R1) (T : T1) : (puts L T).size ≤ T.size + L.length := by
  induction L generalizing T with
  | nil => simp [puts]
  | cons r L ih =>
    have h1 := ih (T.put r.1 r.2.1 r.2.2)
    have h2 := Tr.put_size r.1 r.2.1 r.2.2 T
    simp only [puts, List.foldl_cons, List.length_cons] at *
    omega
theorem puts_take {L : List R1} {m : Nat} (h : m < L.length) (T : T1) : puts (L.take (m + 1)) T = (puts (L.take m) T).put L[m].1 L[m].2.1 L[m].2.2 := by
  unfold puts; rw [List.take_succ_eq_append_getElem h, List.foldl_append]; rfl
def am (i n : Int) : Int := if n < 1 then 0 else i % n
theorem among_any (i n : Int) (hi : -9223372036854775808 ≤ i ∧ i ≤ 9223372036854775807) (hn : -9223372036854775808 ≤ n ∧ n ≤ 9223372036854775807) (w : World) :
    Calls Try.prog 36 #[.int .i64 i, .int .i64 n] w fun e w' => e = .returned (.int .i64 (am i n)) ∧ w = w' := by
  obtain ⟨r, hr⟩ : ∃ r, r = am i n := ⟨_, rfl⟩
  rw [← hr]
  unfold am at hr
  go_enter Try.func36, Try.ntmps36
  by_cases h1 : n < 1
  · rw [if_pos h1] at hr
    subst hr
    go_wp2
    go_ret
    exact ⟨rfl, rfl⟩
  · rw [if_neg h1] at hr
    have h0 : ¬ n = 0 := by omega
    have h00 : ¬ n = -1 := by omega
    have h3 := Int.emod_nonneg i h0
    have h4 := Int.emod_lt_of_pos i (show 0 < n by omega)
    have h5 := Int.tmod_eq_emod (a := i) (b := n)
    have h6 : i % n = 0 → (n ∣ i) := Int.dvd_of_emod_eq_zero
    have h7 : r = if i.tmod n < 0 then i.tmod n + n else i.tmod n := by
      rw [hr, h5]
      by_cases hc : 0 ≤ i ∨ n ∣ i
      · rw [if_pos hc]; simp; omega
      · have h8 : ¬ i % n = 0 := fun e => hc (.inr (h6 e))
        rw [if_neg hc, if_pos (by omega)]; omega
    have H7 := hid_mk h7
    have HB := hid_mk (show -9223372036854775808 ≤ r ∧ r ≤ 9223372036854775807 by omega)
    clear h3 h4 h5 h6 h7 hr
    by_cases h8 : i.tmod n < 0
    · have h9 : wrap64 (i.tmod n + n) = r := by have := HB.out; have e := H7.out; rw [if_pos h8] at e; unfold wrap64; omega
      go_wp2
      go_ret
      exact ⟨rfl, rfl⟩
    · have h9 : i.tmod n = r := by have e := H7.out; rw [if_neg h8] at e; exact e.symm
      have h10 : ¬ r < 0 := h9 ▸ h8
      go_wp2
      go_ret
      exact ⟨rfl, rfl⟩
abbrev zm : Int × Int := (1, 0)
/-- A tree in memory that joins Maps. -/
structure MTree (w : World) (tb : Nat) (T : T1) : Prop where
  tr : ∃ pv, TreeW1 w tb zm 37 #[] pv ∧ IsTree1 none jm zm w pv T
theorem MTree.ext {w w' : World} {tb : Nat} {T : T1} (h : MTree w tb T) (hx : Ext w w') : MTree w' tb T := by
  obtain ⟨pv, h1, h2⟩ := h.tr
  exact ⟨pv, h1.xt (Xt.of hx : Xt none _ _) (by simp), h2.xt (Xt.of hx)⟩
theorem mput {tb : Nat} {T : T1} {w : World} (k : ByteArray) (v : Int) (s : Int × Int) (h : MTree w tb T) (hsz : T.size + 1 ≤ 4611686018427387904) :
    Calls Try.prog 61 #[.pointer (some ⟨tb, 0, none⟩), .string k, .int .i64 v, .agg #[.int .u64 s.1, .int .u64 s.2]] w fun e w' => e = .returned (.tuple #[.int .i64 ((T.get k).getD 0), .bool (T.get k).isSome]) ∧ MTree w' tb (T.put k v s) ∧ Xl [tb] w w' := by
  obtain ⟨pv, h1, h2⟩ := h.tr
  refine (tput1_any jokM (n := 0) k v s h1 (by simp) h2 trivial hsz ?_).mono ?_
  · have h0 : ∀ T : T1, T.wt (fun _ => 0) = 0 := fun T => by induction T with
      | nil => rfl
      | node l k v s r h1 h2 => simp [Tr.wt, h1, h2]
    rw [h0]; simp
  rintro e w' ⟨rfl, pv', j, h3, h4, h5, -, -⟩
  exact ⟨rfl, ⟨pv', h3, h4⟩, h5⟩
theorem grown_any (L : List R1) (v : Value) (w : World) (hL : RowsSl w v L) :
    Calls Try.prog 34 #[v] w fun e w' => ∃ tb, e = .returned (.pointer (some ⟨tb, 0, none⟩)) ∧ w.heap.size ≤ tb ∧ MTree w' tb (puts L .nil) ∧ Ext w w' := by
  obtain ⟨a, c, rfl, hlc, hl63, hcells⟩ := hL
  have HC := hid_mk hcells
  have HLC := hid_mk (And.intro hlc hl63)
  clear hcells hlc hl63
  go_enter Try.func34, Try.ntmps34
  go_wp2_with fail
  refine (rzero_any w).mono ?_
  rintro e w1 ⟨rfl, hx1⟩
  have HX1 := hid_mk hx1
  clear hx1
  go_wp2_with fail
  refine (new1_any zm 37 #[] w1).mono ?_
  rintro e w2 ⟨tb, rfl, hb, hT, hX⟩
  have HB := hid_mk (show w.heap.size ≤ tb by have := HX1.out.below.size; omega)
  have HX := hid_mk (Ext.trans _ _ _ HX1.out hX)
  have H : Hid (MTree w2 tb .nil) := hid_mk ⟨_, hT, rfl⟩
  clear hb hT hX
  go_wp2_with fail
  go_loopw [10] (fun i wr => ∃ m : Nat, m ≤ L.length ∧ i = .int .i64 (m : Int) ∧ MTree wr tb (puts (L.take m) .nil) ∧ Ext w wr) (fun i _ => L.length - (intOf i).toNat)
  case atStart => exact ⟨0, Nat.zero_le _, rfl, H.out, HX.out⟩
  case round =>
    obtain ⟨m, hm, rfl, hT, hx⟩ := hrel
    have HT := hid_mk hT
    have HXR := hid_mk hx
    clear hT hx
    by_cases hlt : m < L.length
    · obtain ⟨b, o, rfl, hrows⟩ := HC.out (by omega)
      obtain ⟨r0, r1, r2, r3⟩ := hrows.xt (Xt.of HXR.out : Xt none _ _) (by simp) m hlt
      have hbl := cell_lt r0
      clear hrows
      have HP := hid_mk (puts_take hlt (.nil : T1))
      have HPS := hid_mk (show (puts (L.take m) (.nil : T1)).size + 1 ≤ 4611686018427387904 by
        have h1 := puts_size (L.take m) (.nil : T1); have h2 := HLC.out.2; rw [List.length_take] at h1; simp only [Tr.size] at h1; omega)
      have hm63 : (m : Int) < (L.length : Int) := by omega
      have hm0 : (0 : Int) ≤ (m : Int) := by omega
      have hw1 : IntKind.i64.wrap ((m : Int) + 1) = (m : Int) + 1 := by have := HLC.out.2; rw [IntKind.wrap_i64]; omega
      go_wp2_with fail
      refine (mput L[m].1 L[m].2.1 L[m].2.2 (HT.out.ext (by (repeat (first | exact Ext.refl _ | apply Ext.drew_left | apply Ext.drew | apply Ext.alloc)))) HPS.out).mono ?_
      rintro e w3 ⟨rfl, hT3, hx3⟩
      have HT3 := hid_mk hT3
      have HX3 := hid_mk (Xl.ext (Ext.trans _ _ _ HXR.out (by (repeat (first | exact Ext.refl _ | apply Ext.drew_left | apply Ext.drew | apply Ext.alloc)))) hx3 (by simpa using HB.out))
      clear hT3 hx3
      go_wp2
      go_roundw
      case rel => exact ⟨m + 1, by omega, by go_num, by rw [HP.out]; exact HT3.out, HX3.out⟩
      case measure => simp [intOf]; omega
    · obtain rfl : m = L.length := by omega
      rw [List.take_length] at HT
      go_wp2
      go_ret
      exact ⟨tb, rfl, HB.out, HT.out, HXR.out⟩
end Go.Proofs.Ytgglbohcnlcagaa
