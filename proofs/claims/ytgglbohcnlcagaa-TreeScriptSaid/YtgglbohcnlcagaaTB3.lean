/- Nodes in memory; how many rows stand below one, how high it is. (One of three instances.) -/
import Derived.Test.YtgglbohcnlcagaaTA
namespace Go.Proofs.Ytgglbohcnlcagaa
open Go.RowKit
set_option maxHeartbeats 8000000
set_option maxRecDepth 100000
set_option linter.unusedSimpArgs false
set_option linter.unusedVariables false
theorem en_Tmany3 : Enters Try.prog 113 := ⟨_, Try.func113, by kernel_rfl, rfl⟩
theorem en_Thigh3 : Enters Try.prog 131 := ⟨_, Try.func131, by kernel_rfl, rfl⟩
theorem en_TLen3 : Enters Try.prog 86 := ⟨_, Try.func86, by kernel_rfl, rfl⟩

abbrev V3 := Int
abbrev encV3 (v : V3) : Value := .int .i64 v
abbrev S3 := ByteArray
abbrev encS3 (s : S3) : Value := .string s
structure RowAt3 (w : World) (b : Nat) (k : ByteArray) (v : V3) (s : S3) : Prop where
  c0 : w.cell? ⟨b, 0, none⟩ = some (.string k)
  c1 : w.cell? ⟨b, 1, none⟩ = some (encV3 v)
  c2 : w.cell? ⟨b, 2, none⟩ = some (.string s)
structure NodeAt3 (w : World) (b : Nat) (k : ByteArray) (v : V3) (s sm : S3) (pl pr : Value) (n h : Int) : Prop where
  c0 : w.cell? ⟨b, 0, none⟩ = some (.string k)
  c1 : w.cell? ⟨b, 1, none⟩ = some (encV3 v)
  c2 : w.cell? ⟨b, 2, none⟩ = some (.string s)
  c3 : w.cell? ⟨b, 3, none⟩ = some (.string sm)
  c4 : w.cell? ⟨b, 4, none⟩ = some pl
  c5 : w.cell? ⟨b, 5, none⟩ = some pr
  c6 : w.cell? ⟨b, 6, none⟩ = some (.int .i64 n)
  c7 : w.cell? ⟨b, 7, none⟩ = some (.int .i64 h)
structure TreeAt3 (w : World) (b : Nat) (z : S3) (jv rv : Value) : Prop where
  c0 : w.cell? ⟨b, 0, none⟩ = some (.string z)
  c1 : w.cell? ⟨b, 1, none⟩ = some jv
  c2 : w.cell? ⟨b, 2, none⟩ = some rv
theorem RowAt3.xt {Sp : Option Nat} {w w' : World} {b : Nat} {k : ByteArray} {v : V3} {s : S3} (h : RowAt3 w b k v s) (hx : Xt Sp w w') (hn : Sp ≠ some b) : RowAt3 w' b k v s :=
  ⟨hx.rd h.c0 hn, hx.rd h.c1 hn, hx.rd h.c2 hn⟩
theorem NodeAt3.row {w : World} {b : Nat} {k : ByteArray} {v : V3} {s sm : S3} {pl pr : Value} {n h : Int} (q : NodeAt3 w b k v s sm pl pr n h) : RowAt3 w b k v s := ⟨q.c0, q.c1, q.c2⟩
theorem NodeAt3.xt {Sp : Option Nat} {w w' : World} {b : Nat} {k : ByteArray} {v : V3} {s sm : S3} {pl pr : Value} {n h : Int} (q : NodeAt3 w b k v s sm pl pr n h) (hx : Xt Sp w w') (hn : Sp ≠ some b) : NodeAt3 w' b k v s sm pl pr n h :=
  ⟨hx.rd q.c0 hn, hx.rd q.c1 hn, hx.rd q.c2 hn, hx.rd q.c3 hn, hx.rd q.c4 hn, hx.rd q.c5 hn, hx.rd q.c6 hn, hx.rd q.c7 hn⟩
theorem TreeAt3.xt {Sp : Option Nat} {w w' : World} {b : Nat} {z : S3} {jv rv : Value} (q : TreeAt3 w b z jv rv) (hx : Xt Sp w w') (hn : Sp ≠ some b) : TreeAt3 w' b z jv rv :=
  ⟨hx.rd q.c0 hn, hx.rd q.c1 hn, hx.rd q.c2 hn⟩
/-- A node, and its sum may be written. -/
structure Fresh3 (w : World) (b : Nat) (k : ByteArray) (v : V3) (s sm : S3) (pl pr : Value) (n h : Int) : Prop where
  at_ : NodeAt3 w b k v s sm pl pr n h
  f0 : w.frozen? ⟨b, 3, none⟩ = false
theorem Fresh3.xt {Sp : Option Nat} {w w' : World} {b : Nat} {k : ByteArray} {v : V3} {s sm : S3} {pl pr : Value} {n h : Int} (q : Fresh3 w b k v s sm pl pr n h) (hx : Xt Sp w w') (hn : Sp ≠ some b) : Fresh3 w' b k v s sm pl pr n h :=
  ⟨q.at_.xt hx hn, hx.fz q.at_.c3 hn q.f0⟩
theorem Fresh3.set {w : World} {b : Nat} {k : ByteArray} {v : V3} {s sm t : S3} {pl pr : Value} {n h : Int} (q : Fresh3 w b k v s sm pl pr n h) : Fresh3 (w.setCell ⟨b, 3, none⟩ (.string t)) b k v s t pl pr n h :=
  ⟨⟨(tset_neo (by decide)).trans q.at_.c0, (tset_neo (by decide)).trans q.at_.c1, (tset_neo (by decide)).trans q.at_.c2, tset_eq q.at_.c3, (tset_neo (by decide)).trans q.at_.c4, (tset_neo (by decide)).trans q.at_.c5,
    (tset_neo (by decide)).trans q.at_.c6, (tset_neo (by decide)).trans q.at_.c7⟩, tset_fz q.f0⟩
abbrev T3 := Tr V3 S3
/-- A tree lies in memory behind a pointer. -/
def IsTree3 (Sp : Option Nat) (J : S3 → S3 → S3) (z : S3) (w : World) : Value → T3 → Prop
  | pv, .nil => pv = .pointer none
  | pv, .node l k v s r => ∃ b pl pr, pv = .pointer (some ⟨b, 0, none⟩) ∧ Sp ≠ some b ∧ NodeAt3 w b k v s ((Tr.node l k v s r).sum J z) pl pr ((Tr.node l k v s r).size : Nat) ((Tr.node l k v s r).high : Nat) ∧ IsTree3 Sp J z w pl l ∧ IsTree3 Sp J z w pr r
theorem IsTree3.xt {Sp : Option Nat} {J : S3 → S3 → S3} {z : S3} {w w' : World} (hx : Xt Sp w w') : ∀ {pv : Value} {T : T3}, IsTree3 Sp J z w pv T → IsTree3 Sp J z w' pv T
  | _, .nil, h => h
  | _, .node l k v s r, ⟨b, pl, pr, h1, h2, h3, h4, h5⟩ => ⟨b, pl, pr, h1, h2, h3.xt hx h2, h4.xt hx, h5.xt hx⟩
theorem IsTree3.ptr {Sp : Option Nat} {J : S3 → S3 → S3} {z : S3} {w : World} {pv : Value} {T : T3} (h : IsTree3 Sp J z w pv T) : ∃ pa : Option Addr, pv = .pointer pa ∧ pa.isNone = T.isNil := by
  cases T with
  | nil => exact ⟨none, h, rfl⟩
  | node l k v s r => obtain ⟨b, pl, pr, h1, -⟩ := h; exact ⟨_, h1, rfl⟩
/-- What a call that makes a tree hands back. -/
def Made3 (Sp : Option Nat) (J : S3 → S3 → S3) (z : S3) (K : Nat → World → Prop) (n lim : Nat) (T : T3) (w : World) (e : Ending) (w' : World) : Prop :=
  ∃ pv j, e = .returned pv ∧ IsTree3 Sp J z w' pv T ∧ Xt Sp w w' ∧ K (n + j) w' ∧ j ≤ lim
theorem many3_any {Sp : Option Nat} {J : S3 → S3 → S3} {z : S3} {w : World} {pv : Value} {T : T3} (h : IsTree3 Sp J z w pv T) :
    Calls Try.prog 113 #[pv] w fun e w' => e = .returned (.int .i64 (T.size : Nat)) ∧ w = w' := by
  cases T with
  | nil =>
    cases h
    go_enter Try.func113, Try.ntmps113
    go_wp2
    go_ret
    exact ⟨rfl, rfl⟩
  | node l k v s r =>
    obtain ⟨b, pl, pr, rfl, -, h3, -, -⟩ := h
    generalize (Tr.node l k v s r).size = n at *
    go_enter Try.func113, Try.ntmps113
    obtain ⟨c0, c1, c2, c3, c4, c5, c6, c7⟩ := h3
    go_wp2
    go_ret
    exact ⟨rfl, rfl⟩
theorem high3_any {Sp : Option Nat} {J : S3 → S3 → S3} {z : S3} {w : World} {pv : Value} {T : T3} (h : IsTree3 Sp J z w pv T) :
    Calls Try.prog 131 #[pv] w fun e w' => e = .returned (.int .i64 (T.high : Nat)) ∧ w = w' := by
  cases T with
  | nil =>
    cases h
    go_enter Try.func131, Try.ntmps131
    go_wp2
    go_ret
    exact ⟨rfl, rfl⟩
  | node l k v s r =>
    obtain ⟨b, pl, pr, rfl, -, h3, -, -⟩ := h
    generalize (Tr.node l k v s r).high = n at *
    go_enter Try.func131, Try.ntmps131
    obtain ⟨c0, c1, c2, c3, c4, c5, c6, c7⟩ := h3
    go_wp2
    go_ret
    exact ⟨rfl, rfl⟩
end Go.Proofs.Ytgglbohcnlcagaa
