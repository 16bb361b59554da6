/- Joins counted: the walk of TreeCosts. -/
import Derived.Test.YtgglbohcnlcagaaVB
import Derived.Test.YtgglbohcnlcagaaTN
namespace Go.Proofs.Ytgglbohcnlcagaa
open Go.RowKit
set_option maxHeartbeats 2000000
set_option maxRecDepth 100000
set_option linter.unusedSimpArgs false
set_option linter.unusedVariables false
theorem en_TreeCosts : Enters Try.prog 12 := ⟨_, Try.func12, by kernel_rfl, rfl⟩

/-- A step. -/
structure POp where
  kind : Int
  tree : Int
  i : Int
  j : Int
  v : Int
  key : ByteArray
  s : Int × Int
def I64 (n : Int) : Prop := -9223372036854775808 ≤ n ∧ n ≤ 9223372036854775807
structure OpAt (w : World) (b o : Nat) (p : POp) : Prop where
  c0 : w.cell? ⟨b, o, none⟩ = some (.int .i64 p.kind)
  c1 : w.cell? ⟨b, o + 1, none⟩ = some (.int .i64 p.tree)
  c2 : w.cell? ⟨b, o + 2, none⟩ = some (.int .i64 p.i)
  c3 : w.cell? ⟨b, o + 3, none⟩ = some (.int .i64 p.j)
  c4 : w.cell? ⟨b, o + 4, none⟩ = some (.int .i64 p.v)
  c5 : w.cell? ⟨b, o + 5, none⟩ = some (.string p.key)
  c6 : w.cell? ⟨b, o + 6, none⟩ = some (.int .u64 p.s.1)
  c7 : w.cell? ⟨b, o + 7, none⟩ = some (.int .u64 p.s.2)
theorem OpAt.xt {Sp : Option Nat} {w w' : World} {b o : Nat} {p : POp} (h : OpAt w b o p) (hx : Xt Sp w w') (hn : Sp ≠ some b) : OpAt w' b o p :=
  ⟨hx.rd h.c0 hn, hx.rd h.c1 hn, hx.rd h.c2 hn, hx.rd h.c3 hn, hx.rd h.c4 hn, hx.rd h.c5 hn, hx.rd h.c6 hn, hx.rd h.c7 hn⟩
structure OpOK (p : POp) : Prop where
  kind : I64 p.kind
  tree : I64 p.tree
  i : I64 p.i
  j : I64 p.j
  v : I64 p.v
  s : InM p.s
def OpsSl (w : World) (v : Value) (L : List POp) : Prop := ∃ a c, v = .slice a L.length c ∧ L.length ≤ c ∧ L.length ≤ 4398046511104 ∧ (∀ p ∈ L, OpOK p) ∧ (0 < L.length → ∃ b o, a = some ⟨b, o, none⟩ ∧ ∀ i, (h : i < L.length) → OpAt w b (o + i * 8) L[i])
theorem gen_k {K : Act → World → Prop} {a : Act} {w : World} (R : World → Prop) (h0 : R w) (h : ∀ W, R W → K a W) : K a w := h w h0
/-- A tree whose joins are counted. -/
structure CTree (w : World) (tb jb : Nat) (T : T1) (n : Nat) : Prop where
  tr : ∃ pv, TreeW1 w tb zm 60 #[.pointer (some ⟨jb, 0, none⟩)] pv ∧ IsTree1 (some jb) jm zm w pv T
  cnt : Counts jb n w
  ne : jb ≠ tb
theorem CTree.ext {w w' : World} {tb jb n : Nat} {T : T1} (h : CTree w tb jb T n) (hx : Ext w w') : CTree w' tb jb T n := by
  obtain ⟨⟨pv, h1, h2⟩, h3, h4⟩ := h
  exact ⟨⟨pv, h1.xt (Xt.of hx : Xt none _ _) (by simp), h2.xt (Xt.of hx)⟩, (jokC jb).kext h3 hx, h4⟩
theorem wt0 : ∀ T : T1, T.wt (fun _ => 0) = 0
  | .nil => rfl
  | .node l k v s r => by simp [Tr.wt, wt0 l, wt0 r]
theorem cput {w : World} {tb jb n : Nat} {T : T1} (k : ByteArray) (v : Int) (s : Int × Int) (h : CTree w tb jb T n) (hsz : T.size + 1 ≤ 4611686018427387904) :
    Calls Try.prog 61 #[.pointer (some ⟨tb, 0, none⟩), .string k, .int .i64 v, .agg #[.int .u64 s.1, .int .u64 s.2]] w fun e w' => (∃ x, e = .returned x) ∧ ∃ j, CTree w' tb jb (T.put k v s) (n + j) ∧ j ≤ 6 * T.high + 2 ∧ Xl [tb, jb] w w' := by
  obtain ⟨⟨pv, h1, h2⟩, h3, h4⟩ := h
  refine (tput1_any (jokC jb) (n := n) k v s h1 (by simpa using h4) h2 h3 hsz (by rw [wt0]; simp)).mono ?_
  rintro e w' ⟨rfl, pv', j, k1, k2, k3, k4, k5⟩
  exact ⟨⟨_, rfl⟩, j, ⟨⟨pv', k1, k2⟩, k4, h4⟩, k5, k3⟩
theorem cfold {w : World} {tb jb n : Nat} {T : T1} (i j : Int) (hi : I64 i) (hj : I64 j) (h : CTree w tb jb T n) (hsz : T.size ≤ 4398046511104) :
    Calls Try.prog 38 #[.pointer (some ⟨tb, 0, none⟩), .int .i64 i, .int .i64 j] w fun e w' => (∃ x, e = .returned x) ∧ ∃ c, CTree w' tb jb T (n + c) ∧ c ≤ 6 * T.high + 2 ∧ Xl [tb, jb] w w' := by
  obtain ⟨⟨pv, h1, h2⟩, h3, h4⟩ := h
  refine (fold1_any (jokC jb) (n := n) i j hi hj h1.at_ (by simpa using h4) h2 h3 hsz (by rw [wt0]; exact Nat.le_refl _)).mono ?_
  rintro e w' ⟨rfl, hx, hk⟩
  have hc := Tr.pieces_cost jm zm T (max i 0) (min j T.size)
  exact ⟨⟨_, rfl⟩, _, ⟨⟨pv, h1.xt hx (by simpa using h4), h2.xt hx⟩, hk, h4⟩, by omega, Xl.ofXt hx (by intro s hs; cases hs; simp)⟩
theorem clen {w : World} {tb jb n : Nat} {T : T1} (h : CTree w tb jb T n) : Calls Try.prog 35 #[.pointer (some ⟨tb, 0, none⟩)] w fun e w' => e = .returned (.int .i64 ((T.size : Nat) : Int)) ∧ w = w' := by
  obtain ⟨⟨pv, h1, h2⟩, -, -⟩ := h
  exact len1_any h1.at_ h2
theorem cget {w : World} {tb jb n : Nat} {T : T1} (k : ByteArray) (h : CTree w tb jb T n) : Calls Try.prog 42 #[.pointer (some ⟨tb, 0, none⟩), .string k] w fun e w' => (∃ x, e = .returned x) ∧ Ext w w' := by
  obtain ⟨⟨pv, h1, h2⟩, -, -⟩ := h
  refine (get1_any k h1.at_ h2).mono ?_
  rintro e w' ⟨rfl, rfl⟩
  exact ⟨⟨_, rfl⟩, Ext.refl _⟩
theorem crank {w : World} {tb jb n : Nat} {T : T1} (k : ByteArray) (h : CTree w tb jb T n) (hsz : T.size ≤ 4398046511104) : Calls Try.prog 40 #[.pointer (some ⟨tb, 0, none⟩), .string k] w fun e w' => (∃ x, e = .returned x) ∧ Ext w w' := by
  obtain ⟨⟨pv, h1, h2⟩, -, -⟩ := h
  refine (rank1_any k h1.at_ h2 (by omega)).mono ?_
  rintro e w' ⟨rfl, rfl⟩
  exact ⟨⟨_, rfl⟩, Ext.refl _⟩
theorem cat1 {w : World} {tb jb n : Nat} {T : T1} (i : Int) (hi : I64 i) (h : CTree w tb jb T n) (hsz : T.size ≤ 4398046511104) : Calls Try.prog 41 #[.pointer (some ⟨tb, 0, none⟩), .int .i64 i] w fun e w' => (∃ x, e = .returned x) ∧ Ext w w' := by
  obtain ⟨⟨pv, h1, h2⟩, -, -⟩ := h
  refine (at1_any i hi h1.at_ h2 (by omega)).mono ?_
  rintro e w' ⟨rfl, hx⟩
  exact ⟨⟨_, rfl⟩, hx⟩
theorem cclone {w : World} {tb jb n : Nat} {T : T1} (h : CTree w tb jb T n) : Calls Try.prog 62 #[.pointer (some ⟨tb, 0, none⟩)] w fun e w' => (∃ c, e = .returned (.pointer (some ⟨c, 0, none⟩))) ∧ Ext w w' := by
  obtain ⟨⟨pv, h1, h2⟩, -, -⟩ := h
  obtain ⟨pa, rfl, -⟩ := h2.ptr
  refine (clone1_any h1).mono ?_
  rintro e w' ⟨c, rfl, -, -, hx⟩
  exact ⟨⟨_, rfl⟩, hx⟩
theorem cspan {w : World} {tb jb n : Nat} {T : T1} (i j : Int) (h : CTree w tb jb T n) : Calls Try.prog 64 #[.pointer (some ⟨tb, 0, none⟩), .int .i64 i, .int .i64 j] w fun e w' => (∃ g xs, e = .returned (.func g #[] xs)) ∧ Ext w w' := by
  obtain ⟨⟨pv, h1, h2⟩, -, -⟩ := h
  exact span_any i j h1 h2
theorem call {w : World} {tb jb n : Nat} {T : T1} (h : CTree w tb jb T n) : Calls Try.prog 63 #[.pointer (some ⟨tb, 0, none⟩)] w fun e w' => (∃ g xs, e = .returned (.func g #[] xs)) ∧ Ext w w' := by
  obtain ⟨⟨pv, h1, h2⟩, -, -⟩ := h
  exact all_any h1 h2
end Go.Proofs.Ytgglbohcnlcagaa
