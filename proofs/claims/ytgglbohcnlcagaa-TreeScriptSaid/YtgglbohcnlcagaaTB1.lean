/- Nodes in memory; how many rows stand below one, how high it is. (One of three instances.) -/
import Derived.Test.YtgglbohcnlcagaaTA
namespace Go.Proofs.Ytgglbohcnlcagaa
open Go.RowKit
set_option maxHeartbeats 8000000
set_option maxRecDepth 100000
set_option linter.unusedSimpArgs false
set_option linter.unusedVariables false
theorem en_Tmany1 : Enters Try.prog 89 := ⟨_, Try.func89, by kernel_rfl, rfl⟩
theorem en_Thigh1 : Enters Try.prog 128 := ⟨_, Try.func128, by kernel_rfl, rfl⟩
theorem en_TLen1 : Enters Try.prog 35 := ⟨_, Try.func35, by kernel_rfl, rfl⟩

abbrev V1 := Int
abbrev S1 := Int × Int
abbrev encV1 (v : V1) : Value := .int .i64 v
abbrev encS1 (s : S1) : Value := .agg #[.int .u64 s.1, .int .u64 s.2]
structure RowAt1 (w : World) (b : Nat) (k : ByteArray) (v : V1) (s : S1) : Prop where
  c0 : w.cell? ⟨b, 0, none⟩ = some (.string k)
  c1 : w.cell? ⟨b, 1, none⟩ = some (.int .i64 v)
  c2 : w.cell? ⟨b, 2, none⟩ = some (.int .u64 s.1)
  c3 : w.cell? ⟨b, 3, none⟩ = some (.int .u64 s.2)
structure NodeAt1 (w : World) (b : Nat) (k : ByteArray) (v : V1) (s sm : S1) (pl pr : Value) (n h : Int) : Prop where
  c0 : w.cell? ⟨b, 0, none⟩ = some (.string k)
  c1 : w.cell? ⟨b, 1, none⟩ = some (.int .i64 v)
  c2 : w.cell? ⟨b, 2, none⟩ = some (.int .u64 s.1)
  c3 : w.cell? ⟨b, 3, none⟩ = some (.int .u64 s.2)
  c4 : w.cell? ⟨b, 4, none⟩ = some (.int .u64 sm.1)
  c5 : w.cell? ⟨b, 5, none⟩ = some (.int .u64 sm.2)
  c6 : w.cell? ⟨b, 6, none⟩ = some pl
  c7 : w.cell? ⟨b, 7, none⟩ = some pr
  c8 : w.cell? ⟨b, 8, none⟩ = some (.int .i64 n)
  c9 : w.cell? ⟨b, 9, none⟩ = some (.int .i64 h)
structure TreeAt1 (w : World) (b : Nat) (z : S1) (jv rv : Value) : Prop where
  c0 : w.cell? ⟨b, 0, none⟩ = some (.int .u64 z.1)
  c1 : w.cell? ⟨b, 1, none⟩ = some (.int .u64 z.2)
  c2 : w.cell? ⟨b, 2, none⟩ = some jv
  c3 : w.cell? ⟨b, 3, none⟩ = some rv
theorem RowAt1.xt {Sp : Option Nat} {w w' : World} {b : Nat} {k : ByteArray} {v : V1} {s : S1} (h : RowAt1 w b k v s) (hx : Xt Sp w w') (hn : Sp ≠ some b) : RowAt1 w' b k v s :=
  ⟨hx.rd h.c0 hn, hx.rd h.c1 hn, hx.rd h.c2 hn, hx.rd h.c3 hn⟩
theorem NodeAt1.row {w : World} {b : Nat} {k : ByteArray} {v : V1} {s sm : S1} {pl pr : Value} {n h : Int} (q : NodeAt1 w b k v s sm pl pr n h) : RowAt1 w b k v s := ⟨q.c0, q.c1, q.c2, q.c3⟩
theorem NodeAt1.xt {Sp : Option Nat} {w w' : World} {b : Nat} {k : ByteArray} {v : V1} {s sm : S1} {pl pr : Value} {n h : Int} (q : NodeAt1 w b k v s sm pl pr n h) (hx : Xt Sp w w') (hn : Sp ≠ some b) : NodeAt1 w' b k v s sm pl pr n h :=
  ⟨hx.rd q.c0 hn, hx.rd q.c1 hn, hx.rd q.c2 hn, hx.rd q.c3 hn, hx.rd q.c4 hn, hx.rd q.c5 hn, hx.rd q.c6 hn, hx.rd q.c7 hn, hx.rd q.c8 hn, hx.rd q.c9 hn⟩
theorem TreeAt1.xt {Sp : Option Nat} {w w' : World} {b : Nat} {z : S1} {jv rv : Value} (q : TreeAt1 w b z jv rv) (hx : Xt Sp w w') (hn : Sp ≠ some b) : TreeAt1 w' b z jv rv :=
  ⟨hx.rd q.c0 hn, hx.rd q.c1 hn, hx.rd q.c2 hn, hx.rd q.c3 hn⟩
/-- A node, and its sum may be written. -/
structure Fresh1 (w : World) (b : Nat) (k : ByteArray) (v : V1) (s sm : S1) (pl pr : Value) (n h : Int) : Prop where
  at_ : NodeAt1 w b k v s sm pl pr n h
  f0 : w.frozen? ⟨b, 4, none⟩ = false
  f1 : w.frozen? ⟨b, 5, none⟩ = false
theorem Fresh1.xt {Sp : Option Nat} {w w' : World} {b : Nat} {k : ByteArray} {v : V1} {s sm : S1} {pl pr : Value} {n h : Int} (q : Fresh1 w b k v s sm pl pr n h) (hx : Xt Sp w w') (hn : Sp ≠ some b) : Fresh1 w' b k v s sm pl pr n h :=
  ⟨q.at_.xt hx hn, hx.fz q.at_.c4 hn q.f0, hx.fz q.at_.c5 hn q.f1⟩
theorem Fresh1.set {w : World} {b : Nat} {k : ByteArray} {v : V1} {s sm t : S1} {pl pr : Value} {n h : Int} (q : Fresh1 w b k v s sm pl pr n h) : Fresh1 ((w.setCell ⟨b, 4, none⟩ (.int .u64 t.1)).setCell ⟨b, 5, none⟩ (.int .u64 t.2)) b k v s t pl pr n h :=
  ⟨⟨(tset_neo (by decide)).trans ((tset_neo (by decide)).trans q.at_.c0), (tset_neo (by decide)).trans ((tset_neo (by decide)).trans q.at_.c1), (tset_neo (by decide)).trans ((tset_neo (by decide)).trans q.at_.c2), (tset_neo (by decide)).trans ((tset_neo (by decide)).trans q.at_.c3),
    (tset_neo (by decide)).trans (tset_eq q.at_.c4), tset_eq ((tset_neo (by decide)).trans q.at_.c5), (tset_neo (by decide)).trans ((tset_neo (by decide)).trans q.at_.c6), (tset_neo (by decide)).trans ((tset_neo (by decide)).trans q.at_.c7),
    (tset_neo (by decide)).trans ((tset_neo (by decide)).trans q.at_.c8), (tset_neo (by decide)).trans ((tset_neo (by decide)).trans q.at_.c9)⟩, tset_fz (tset_fz q.f0), tset_fz (tset_fz q.f1)⟩
abbrev T1 := Tr V1 S1
/-- A tree lies in memory behind a pointer. -/
def IsTree1 (Sp : Option Nat) (J : S1 → S1 → S1) (z : S1) (w : World) : Value → T1 → Prop
  | pv, .nil => pv = .pointer none
  | pv, .node l k v s r => ∃ b pl pr, pv = .pointer (some ⟨b, 0, none⟩) ∧ Sp ≠ some b ∧ NodeAt1 w b k v s ((Tr.node l k v s r).sum J z) pl pr ((Tr.node l k v s r).size : Nat) ((Tr.node l k v s r).high : Nat) ∧ IsTree1 Sp J z w pl l ∧ IsTree1 Sp J z w pr r
theorem IsTree1.xt {Sp : Option Nat} {J : S1 → S1 → S1} {z : S1} {w w' : World} (hx : Xt Sp w w') : ∀ {pv : Value} {T : T1}, IsTree1 Sp J z w pv T → IsTree1 Sp J z w' pv T
  | _, .nil, h => h
  | _, .node l k v s r, ⟨b, pl, pr, h1, h2, h3, h4, h5⟩ => ⟨b, pl, pr, h1, h2, h3.xt hx h2, h4.xt hx, h5.xt hx⟩
theorem IsTree1.ptr {Sp : Option Nat} {J : S1 → S1 → S1} {z : S1} {w : World} {pv : Value} {T : T1} (h : IsTree1 Sp J z w pv T) : ∃ pa : Option Addr, pv = .pointer pa ∧ pa.isNone = T.isNil := by
  cases T with
  | nil => exact ⟨none, h, rfl⟩
  | node l k v s r => obtain ⟨b, pl, pr, h1, -⟩ := h; exact ⟨_, h1, rfl⟩
/-- What a call that makes a tree hands back. -/
def Made1 (Sp : Option Nat) (J : S1 → S1 → S1) (z : S1) (K : Nat → World → Prop) (n lim : Nat) (T : T1) (w : World) (e : Ending) (w' : World) : Prop :=
  ∃ pv j, e = .returned pv ∧ IsTree1 Sp J z w' pv T ∧ Xt Sp w w' ∧ K (n + j) w' ∧ j ≤ lim
theorem many1_any {Sp : Option Nat} {J : S1 → S1 → S1} {z : S1} {w : World} {pv : Value} {T : T1} (h : IsTree1 Sp J z w pv T) :
    Calls Try.prog 89 #[pv] w fun e w' => e = .returned (.int .i64 (T.size : Nat)) ∧ w = w' := by
  cases T with
  | nil =>
    cases h
    go_enter Try.func89, Try.ntmps89
    go_wp2
    go_ret
    exact ⟨rfl, rfl⟩
  | node l k v s r =>
    obtain ⟨b, pl, pr, rfl, -, h3, -, -⟩ := h
    generalize (Tr.node l k v s r).size = n at *
    go_enter Try.func89, Try.ntmps89
    obtain ⟨c0, c1, c2, c3, c4, c5, c6, c7, c8, c9⟩ := h3
    go_wp2
    go_ret
    exact ⟨rfl, rfl⟩
theorem high1_any {Sp : Option Nat} {J : S1 → S1 → S1} {z : S1} {w : World} {pv : Value} {T : T1} (h : IsTree1 Sp J z w pv T) :
    Calls Try.prog 128 #[pv] w fun e w' => e = .returned (.int .i64 (T.high : Nat)) ∧ w = w' := by
  cases T with
  | nil =>
    cases h
    go_enter Try.func128, Try.ntmps128
    go_wp2
    go_ret
    exact ⟨rfl, rfl⟩
  | node l k v s r =>
    obtain ⟨b, pl, pr, rfl, -, h3, -, -⟩ := h
    generalize (Tr.node l k v s r).high = n at *
    go_enter Try.func128, Try.ntmps128
    obtain ⟨c0, c1, c2, c3, c4, c5, c6, c7, c8, c9⟩ := h3
    go_wp2
    go_ret
    exact ⟨rfl, rfl⟩
end Go.Proofs.Ytgglbohcnlcagaa
