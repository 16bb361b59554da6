/- Nodes in memory; how many rows stand below one, how high it is. (One of three instances.) -/
import Derived.Test.YtgglbohcnlcagaaTA
namespace Go.Proofs.Ytgglbohcnlcagaa
open Go.RowKit
set_option maxHeartbeats 8000000
set_option maxRecDepth 100000
set_option linter.unusedSimpArgs false
set_option linter.unusedVariables false
theorem en_Tmany2 : Enters Try.prog 92 := ⟨_, Try.func92, by kernel_rfl, rfl⟩
theorem en_Thigh2 : Enters Try.prog 126 := ⟨_, Try.func126, by kernel_rfl, rfl⟩
theorem en_TLen2 : Enters Try.prog 46 := ⟨_, Try.func46, by kernel_rfl, rfl⟩

abbrev V2 := ByteArray
abbrev encV2 (v : V2) : Value := .string v
abbrev S2 := ByteArray
abbrev encS2 (s : S2) : Value := .string s
structure RowAt2 (w : World) (b : Nat) (k : ByteArray) (v : V2) (s : S2) : Prop where
  c0 : w.cell? ⟨b, 0, none⟩ = some (.string k)
  c1 : w.cell? ⟨b, 1, none⟩ = some (encV2 v)
  c2 : w.cell? ⟨b, 2, none⟩ = some (.string s)
structure NodeAt2 (w : World) (b : Nat) (k : ByteArray) (v : V2) (s sm : S2) (pl pr : Value) (n h : Int) : Prop where
  c0 : w.cell? ⟨b, 0, none⟩ = some (.string k)
  c1 : w.cell? ⟨b, 1, none⟩ = some (encV2 v)
  c2 : w.cell? ⟨b, 2, none⟩ = some (.string s)
  c3 : w.cell? ⟨b, 3, none⟩ = some (.string sm)
  c4 : w.cell? ⟨b, 4, none⟩ = some pl
  c5 : w.cell? ⟨b, 5, none⟩ = some pr
  c6 : w.cell? ⟨b, 6, none⟩ = some (.int .i64 n)
  c7 : w.cell? ⟨b, 7, none⟩ = some (.int .i64 h)
structure TreeAt2 (w : World) (b : Nat) (z : S2) (jv rv : Value) : Prop where
  c0 : w.cell? ⟨b, 0, none⟩ = some (.string z)
  c1 : w.cell? ⟨b, 1, none⟩ = some jv
  c2 : w.cell? ⟨b, 2, none⟩ = some rv
theorem RowAt2.xt {Sp : Option Nat} {w w' : World} {b : Nat} {k : ByteArray} {v : V2} {s : S2} (h : RowAt2 w b k v s) (hx : Xt Sp w w') (hn : Sp ≠ some b) : RowAt2 w' b k v s :=
  ⟨hx.rd h.c0 hn, hx.rd h.c1 hn, hx.rd h.c2 hn⟩
theorem NodeAt2.row {w : World} {b : Nat} {k : ByteArray} {v : V2} {s sm : S2} {pl pr : Value} {n h : Int} (q : NodeAt2 w b k v s sm pl pr n h) : RowAt2 w b k v s := ⟨q.c0, q.c1, q.c2⟩
theorem NodeAt2.xt {Sp : Option Nat} {w w' : World} {b : Nat} {k : ByteArray} {v : V2} {s sm : S2} {pl pr : Value} {n h : Int} (q : NodeAt2 w b k v s sm pl pr n h) (hx : Xt Sp w w') (hn : Sp ≠ some b) : NodeAt2 w' b k v s sm pl pr n h :=
  ⟨hx.rd q.c0 hn, hx.rd q.c1 hn, hx.rd q.c2 hn, hx.rd q.c3 hn, hx.rd q.c4 hn, hx.rd q.c5 hn, hx.rd q.c6 hn, hx.rd q.c7 hn⟩
theorem TreeAt2.xt {Sp : Option Nat} {w w' : World} {b : Nat} {z : S2} {jv rv : Value} (q : TreeAt2 w b z jv rv) (hx : Xt Sp w w') (hn : Sp ≠ some b) : TreeAt2 w' b z jv rv :=
  ⟨hx.rd q.c0 hn, hx.rd q.c1 hn, hx.rd q.c2 hn⟩
/-- A node, and its sum may be written. -/
structure Fresh2 (w : World) (b : Nat) (k : ByteArray) (v : V2) (s sm : S2) (pl pr : Value) (n h : Int) : Prop where
  at_ : NodeAt2 w b k v s sm pl pr n h
  f0 : w.frozen? ⟨b, 3, none⟩ = false
theorem Fresh2.xt {Sp : Option Nat} {w w' : World} {b : Nat} {k : ByteArray} {v : V2} {s sm : S2} {pl pr : Value} {n h : Int} (q : Fresh2 w b k v s sm pl pr n h) (hx : Xt Sp w w') (hn : Sp ≠ some b) : Fresh2 w' b k v s sm pl pr n h :=
  ⟨q.at_.xt hx hn, hx.fz q.at_.c3 hn q.f0⟩
theorem Fresh2.set {w : World} {b : Nat} {k : ByteArray} {v : V2} {s sm t : S2} {pl pr : Value} {n h : Int} (q : Fresh2 w b k v s sm pl pr n h) : Fresh2 (w.setCell ⟨b, 3, none⟩ (.string t)) b k v s t pl pr n h :=
  ⟨⟨(tset_neo (by decide)).trans q.at_.c0, (tset_neo (by decide)).trans q.at_.c1, (tset_neo (by decide)).trans q.at_.c2, tset_eq q.at_.c3, (tset_neo (by decide)).trans q.at_.c4, (tset_neo (by decide)).trans q.at_.c5,
    (tset_neo (by decide)).trans q.at_.c6, (tset_neo (by decide)).trans q.at_.c7⟩, tset_fz q.f0⟩
abbrev T2 := Tr V2 S2
/-- A tree lies in memory behind a pointer. -/
def IsTree2 (Sp : Option Nat) (J : S2 → S2 → S2) (z : S2) (w : World) : Value → T2 → Prop
  | pv, .nil => pv = .pointer none
  | pv, .node l k v s r => ∃ b pl pr, pv = .pointer (some ⟨b, 0, none⟩) ∧ Sp ≠ some b ∧ NodeAt2 w b k v s ((Tr.node l k v s r).sum J z) pl pr ((Tr.node l k v s r).size : Nat) ((Tr.node l k v s r).high : Nat) ∧ IsTree2 Sp J z w pl l ∧ IsTree2 Sp J z w pr r
theorem IsTree2.xt {Sp : Option Nat} {J : S2 → S2 → S2} {z : S2} {w w' : World} (hx : Xt Sp w w') : ∀ {pv : Value} {T : T2}, IsTree2 Sp J z w pv T → IsTree2 Sp J z w' pv T
  | _, .nil, h => h
  | _, .node l k v s r, ⟨b, pl, pr, h1, h2, h3, h4, h5⟩ => ⟨b, pl, pr, h1, h2, h3.xt hx h2, h4.xt hx, h5.xt hx⟩
theorem IsTree2.ptr {Sp : Option Nat} {J : S2 → S2 → S2} {z : S2} {w : World} {pv : Value} {T : T2} (h : IsTree2 Sp J z w pv T) : ∃ pa : Option Addr, pv = .pointer pa ∧ pa.isNone = T.isNil := by
  cases T with
  | nil => exact ⟨none, h, rfl⟩
  | node l k v s r => obtain ⟨b, pl, pr, h1, -⟩ := h; exact ⟨_, h1, rfl⟩
/-- What a call that makes a tree hands back. -/
def Made2 (Sp : Option Nat) (J : S2 → S2 → S2) (z : S2) (K : Nat → World → Prop) (n lim : Nat) (T : T2) (w : World) (e : Ending) (w' : World) : Prop :=
  ∃ pv j, e = .returned pv ∧ IsTree2 Sp J z w' pv T ∧ Xt Sp w w' ∧ K (n + j) w' ∧ j ≤ lim
theorem many2_any {Sp : Option Nat} {J : S2 → S2 → S2} {z : S2} {w : World} {pv : Value} {T : T2} (h : IsTree2 Sp J z w pv T) :
    Calls Try.prog 92 #[pv] w fun e w' => e = .returned (.int .i64 (T.size : Nat)) ∧ w = w' := by
  cases T with
  | nil =>
    cases h
    go_enter Try.func92, Try.ntmps92
    go_wp2
    go_ret
    exact ⟨rfl, rfl⟩
  | node l k v s r =>
    obtain ⟨b, pl, pr, rfl, -, h3, -, -⟩ := h
    generalize (Tr.node l k v s r).size = n at *
    go_enter Try.func92, Try.ntmps92
    obtain ⟨c0, c1, c2, c3, c4, c5, c6, c7⟩ := h3
    go_wp2
    go_ret
    exact ⟨rfl, rfl⟩
theorem high2_any {Sp : Option Nat} {J : S2 → S2 → S2} {z : S2} {w : World} {pv : Value} {T : T2} (h : IsTree2 Sp J z w pv T) :
    Calls Try.prog 126 #[pv] w fun e w' => e = .returned (.int .i64 (T.high : Nat)) ∧ w = w' := by
  cases T with
  | nil =>
    cases h
    go_enter Try.func126, Try.ntmps126
    go_wp2
    go_ret
    exact ⟨rfl, rfl⟩
  | node l k v s r =>
    obtain ⟨b, pl, pr, rfl, -, h3, -, -⟩ := h
    generalize (Tr.node l k v s r).high = n at *
    go_enter Try.func126, Try.ntmps126
    obtain ⟨c0, c1, c2, c3, c4, c5, c6, c7⟩ := h3
    go_wp2
    go_ret
    exact ⟨rfl, rfl⟩
end Go.Proofs.Ytgglbohcnlcagaa
