/- Nodes in memory; how many rows stand below one, how high it is. (One of three instances.) A node with a row over two trees. (One of three instances.) -/
import Derived.Test.YtokcgnbjkbhmiaaDoorMTA
namespace Go.Proofs.YtokcgnbjkbhmiaaDoor
open Go.RowKit
set_option maxHeartbeats 8000000
set_option maxRecDepth 100000
set_option linter.unusedSimpArgs false
set_option linter.unusedVariables false
theorem en_Tmany4 : Enters Tryd.prog 103 := ⟨_, Tryd.func103, by kernel_rfl, rfl⟩
theorem en_Thigh4 : Enters Tryd.prog 148 := ⟨_, Tryd.func148, by kernel_rfl, rfl⟩
theorem en_TLen4 : Enters Tryd.prog 60 := ⟨_, Tryd.func60, by kernel_rfl, rfl⟩
abbrev V4 := Ent
abbrev S4 := Int × Int × Int
abbrev encV4 (v : V4) : Value := .agg #[.string v.key, .int .i64 v.ctr, .int .i64 v.node, .string v.val, .bool v.dead]
abbrev encS4 (s : S4) : Value := .agg #[.int .i64 s.1, .int .u64 s.2.1, .int .u64 s.2.2]
structure RowAt4 (w : World) (b : Nat) (k : ByteArray) (v : V4) (s : S4) : Prop where
  c0 : w.cell? ⟨b, 0, none⟩ = some (.string k)
  c1 : w.cell? ⟨b, 1, none⟩ = some (.string v.key)
  c2 : w.cell? ⟨b, 2, none⟩ = some (.int .i64 v.ctr)
  c3 : w.cell? ⟨b, 3, none⟩ = some (.int .i64 v.node)
  c4 : w.cell? ⟨b, 4, none⟩ = some (.string v.val)
  c5 : w.cell? ⟨b, 5, none⟩ = some (.bool v.dead)
  c6 : w.cell? ⟨b, 6, none⟩ = some (.int .i64 s.1)
  c7 : w.cell? ⟨b, 7, none⟩ = some (.int .u64 s.2.1)
  c8 : w.cell? ⟨b, 8, none⟩ = some (.int .u64 s.2.2)
structure NodeAt4 (w : World) (b : Nat) (k : ByteArray) (v : V4) (s sm : S4) (pl pr : Value) (n h : Int) : Prop where
  c0 : w.cell? ⟨b, 0, none⟩ = some (.string k)
  c1 : w.cell? ⟨b, 1, none⟩ = some (.string v.key)
  c2 : w.cell? ⟨b, 2, none⟩ = some (.int .i64 v.ctr)
  c3 : w.cell? ⟨b, 3, none⟩ = some (.int .i64 v.node)
  c4 : w.cell? ⟨b, 4, none⟩ = some (.string v.val)
  c5 : w.cell? ⟨b, 5, none⟩ = some (.bool v.dead)
  c6 : w.cell? ⟨b, 6, none⟩ = some (.int .i64 s.1)
  c7 : w.cell? ⟨b, 7, none⟩ = some (.int .u64 s.2.1)
  c8 : w.cell? ⟨b, 8, none⟩ = some (.int .u64 s.2.2)
  c9 : w.cell? ⟨b, 9, none⟩ = some (.int .i64 sm.1)
  c10 : w.cell? ⟨b, 10, none⟩ = some (.int .u64 sm.2.1)
  c11 : w.cell? ⟨b, 11, none⟩ = some (.int .u64 sm.2.2)
  c12 : w.cell? ⟨b, 12, none⟩ = some pl
  c13 : w.cell? ⟨b, 13, none⟩ = some pr
  c14 : w.cell? ⟨b, 14, none⟩ = some (.int .i64 n)
  c15 : w.cell? ⟨b, 15, none⟩ = some (.int .i64 h)
structure TreeAt4 (w : World) (b : Nat) (z : S4) (jv rv : Value) : Prop where
  c0 : w.cell? ⟨b, 0, none⟩ = some (.int .i64 z.1)
  c1 : w.cell? ⟨b, 1, none⟩ = some (.int .u64 z.2.1)
  c2 : w.cell? ⟨b, 2, none⟩ = some (.int .u64 z.2.2)
  c3 : w.cell? ⟨b, 3, none⟩ = some jv
  c4 : w.cell? ⟨b, 4, none⟩ = some rv
theorem RowAt4.xt {Sp : Option Nat} {w w' : World} {b : Nat} {k : ByteArray} {v : V4} {s : S4} (h : RowAt4 w b k v s) (hx : Xt Sp w w') (hn : Sp ≠ some b) : RowAt4 w' b k v s :=
  ⟨hx.rd h.c0 hn, hx.rd h.c1 hn, hx.rd h.c2 hn, hx.rd h.c3 hn, hx.rd h.c4 hn, hx.rd h.c5 hn, hx.rd h.c6 hn, hx.rd h.c7 hn, hx.rd h.c8 hn⟩
theorem NodeAt4.row {w : World} {b : Nat} {k : ByteArray} {v : V4} {s sm : S4} {pl pr : Value} {n h : Int} (q : NodeAt4 w b k v s sm pl pr n h) : RowAt4 w b k v s := ⟨q.c0, q.c1, q.c2, q.c3, q.c4, q.c5, q.c6, q.c7, q.c8⟩
theorem NodeAt4.xt {Sp : Option Nat} {w w' : World} {b : Nat} {k : ByteArray} {v : V4} {s sm : S4} {pl pr : Value} {n h : Int} (q : NodeAt4 w b k v s sm pl pr n h) (hx : Xt Sp w w') (hn : Sp ≠ some b) : NodeAt4 w' b k v s sm pl pr n h :=
  ⟨hx.rd q.c0 hn, hx.rd q.c1 hn, hx.rd q.c2 hn, hx.rd q.c3 hn, hx.rd q.c4 hn, hx.rd q.c5 hn, hx.rd q.c6 hn, hx.rd q.c7 hn, hx.rd q.c8 hn, hx.rd q.c9 hn, hx.rd q.c10 hn, hx.rd q.c11 hn, hx.rd q.c12 hn, hx.rd q.c13 hn, hx.rd q.c14 hn, hx.rd q.c15 hn⟩
theorem TreeAt4.xt {Sp : Option Nat} {w w' : World} {b : Nat} {z : S4} {jv rv : Value} (q : TreeAt4 w b z jv rv) (hx : Xt Sp w w') (hn : Sp ≠ some b) : TreeAt4 w' b z jv rv :=
  ⟨hx.rd q.c0 hn, hx.rd q.c1 hn, hx.rd q.c2 hn, hx.rd q.c3 hn, hx.rd q.c4 hn⟩
/-- A node, and its sum may be written. -/
structure Fresh4 (w : World) (b : Nat) (k : ByteArray) (v : V4) (s sm : S4) (pl pr : Value) (n h : Int) : Prop where
  at_ : NodeAt4 w b k v s sm pl pr n h
  f0 : w.frozen? ⟨b, 9, none⟩ = false
  f1 : w.frozen? ⟨b, 10, none⟩ = false
  f2 : w.frozen? ⟨b, 11, none⟩ = false
theorem Fresh4.xt {Sp : Option Nat} {w w' : World} {b : Nat} {k : ByteArray} {v : V4} {s sm : S4} {pl pr : Value} {n h : Int} (q : Fresh4 w b k v s sm pl pr n h) (hx : Xt Sp w w') (hn : Sp ≠ some b) : Fresh4 w' b k v s sm pl pr n h :=
  ⟨q.at_.xt hx hn, hx.fz q.at_.c9 hn q.f0, hx.fz q.at_.c10 hn q.f1, hx.fz q.at_.c11 hn q.f2⟩
theorem Fresh4.set {w : World} {b : Nat} {k : ByteArray} {v : V4} {s sm t : S4} {pl pr : Value} {n h : Int} (q : Fresh4 w b k v s sm pl pr n h) : Fresh4 (((w.setCell ⟨b, 9, none⟩ (.int .i64 t.1)).setCell ⟨b, 10, none⟩ (.int .u64 t.2.1)).setCell ⟨b, 11, none⟩ (.int .u64 t.2.2)) b k v s t pl pr n h :=
  ⟨⟨(tset_neo (by decide)).trans ((tset_neo (by decide)).trans ((tset_neo (by decide)).trans q.at_.c0)),
    (tset_neo (by decide)).trans ((tset_neo (by decide)).trans ((tset_neo (by decide)).trans q.at_.c1)),
    (tset_neo (by decide)).trans ((tset_neo (by decide)).trans ((tset_neo (by decide)).trans q.at_.c2)),
    (tset_neo (by decide)).trans ((tset_neo (by decide)).trans ((tset_neo (by decide)).trans q.at_.c3)),
    (tset_neo (by decide)).trans ((tset_neo (by decide)).trans ((tset_neo (by decide)).trans q.at_.c4)),
    (tset_neo (by decide)).trans ((tset_neo (by decide)).trans ((tset_neo (by decide)).trans q.at_.c5)),
    (tset_neo (by decide)).trans ((tset_neo (by decide)).trans ((tset_neo (by decide)).trans q.at_.c6)),
    (tset_neo (by decide)).trans ((tset_neo (by decide)).trans ((tset_neo (by decide)).trans q.at_.c7)),
    (tset_neo (by decide)).trans ((tset_neo (by decide)).trans ((tset_neo (by decide)).trans q.at_.c8)),
    (tset_neo (by decide)).trans ((tset_neo (by decide)).trans (tset_eq q.at_.c9)),
    (tset_neo (by decide)).trans (tset_eq ((tset_neo (by decide)).trans q.at_.c10)),
    tset_eq ((tset_neo (by decide)).trans ((tset_neo (by decide)).trans q.at_.c11)),
    (tset_neo (by decide)).trans ((tset_neo (by decide)).trans ((tset_neo (by decide)).trans q.at_.c12)),
    (tset_neo (by decide)).trans ((tset_neo (by decide)).trans ((tset_neo (by decide)).trans q.at_.c13)),
    (tset_neo (by decide)).trans ((tset_neo (by decide)).trans ((tset_neo (by decide)).trans q.at_.c14)),
    (tset_neo (by decide)).trans ((tset_neo (by decide)).trans ((tset_neo (by decide)).trans q.at_.c15))⟩, tset_fz (tset_fz (tset_fz q.f0)), tset_fz (tset_fz (tset_fz q.f1)), tset_fz (tset_fz (tset_fz q.f2))⟩
abbrev T4 := Tr V4 S4
/-- A tree lies in memory behind a pointer. -/
def IsTree4 (Sp : Option Nat) (J : S4 → S4 → S4) (z : S4) (w : World) : Value → T4 → Prop
  | pv, .nil => pv = .pointer none
  | pv, .node l k v s r => ∃ b pl pr, pv = .pointer (some ⟨b, 0, none⟩) ∧ Sp ≠ some b ∧ NodeAt4 w b k v s ((Tr.node l k v s r).sum J z) pl pr ((Tr.node l k v s r).size : Nat) ((Tr.node l k v s r).high : Nat) ∧ IsTree4 Sp J z w pl l ∧ IsTree4 Sp J z w pr r
theorem IsTree4.xt {Sp : Option Nat} {J : S4 → S4 → S4} {z : S4} {w w' : World} (hx : Xt Sp w w') : ∀ {pv : Value} {T : T4}, IsTree4 Sp J z w pv T → IsTree4 Sp J z w' pv T
  | _, .nil, h => h
  | _, .node l k v s r, ⟨b, pl, pr, h1, h2, h3, h4, h5⟩ => ⟨b, pl, pr, h1, h2, h3.xt hx h2, h4.xt hx, h5.xt hx⟩
theorem IsTree4.ptr {Sp : Option Nat} {J : S4 → S4 → S4} {z : S4} {w : World} {pv : Value} {T : T4} (h : IsTree4 Sp J z w pv T) : ∃ pa : Option Addr, pv = .pointer pa ∧ pa.isNone = T.isNil := by
  cases T with
  | nil => exact ⟨none, h, rfl⟩
  | node l k v s r => obtain ⟨b, pl, pr, h1, -⟩ := h; exact ⟨_, h1, rfl⟩
/-- What a call that makes a tree hands back. -/
def Made4 (Sp : Option Nat) (J : S4 → S4 → S4) (z : S4) (K : Nat → World → Prop) (n lim : Nat) (T : T4) (w : World) (e : Ending) (w' : World) : Prop :=
  ∃ pv j, e = .returned pv ∧ IsTree4 Sp J z w' pv T ∧ Xt Sp w w' ∧ K (n + j) w' ∧ j ≤ lim
theorem many4_any {Sp : Option Nat} {J : S4 → S4 → S4} {z : S4} {w : World} {pv : Value} {T : T4} (h : IsTree4 Sp J z w pv T) :
    Calls Tryd.prog 103 #[pv] w fun e w' => e = .returned (.int .i64 (T.size : Nat)) ∧ w = w' := by
  cases T with
  | nil =>
    cases h
    go_enter Tryd.func103, Tryd.ntmps103
    go_wp2
    go_ret
    exact ⟨rfl, rfl⟩
  | node l k v s r =>
    obtain ⟨b, pl, pr, rfl, -, h3, -, -⟩ := h
    generalize (Tr.node l k v s r).size = n at *
    go_enter Tryd.func103, Tryd.ntmps103
    obtain ⟨c0, c1, c2, c3, c4, c5, c6, c7, c8, c9, c10, c11, c12, c13, c14, c15⟩ := h3
    go_wp2
    go_ret
    exact ⟨rfl, rfl⟩
theorem high4_any {Sp : Option Nat} {J : S4 → S4 → S4} {z : S4} {w : World} {pv : Value} {T : T4} (h : IsTree4 Sp J z w pv T) :
    Calls Tryd.prog 148 #[pv] w fun e w' => e = .returned (.int .i64 (T.high : Nat)) ∧ w = w' := by
  cases T with
  | nil =>
    cases h
    go_enter Tryd.func148, Tryd.ntmps148
    go_wp2
    go_ret
    exact ⟨rfl, rfl⟩
  | node l k v s r =>
    obtain ⟨b, pl, pr, rfl, -, h3, -, -⟩ := h
    generalize (Tr.node l k v s r).high = n at *
    go_enter Tryd.func148, Tryd.ntmps148
    obtain ⟨c0, c1, c2, c3, c4, c5, c6, c7, c8, c9, c10, c11, c12, c13, c14, c15⟩ := h3
    go_wp2
    go_ret
    exact ⟨rfl, rfl⟩
end Go.Proofs.YtokcgnbjkbhmiaaDoor
namespace Go.Proofs.YtokcgnbjkbhmiaaDoor
open Go.RowKit
set_option maxHeartbeats 8000000
set_option maxRecDepth 100000
set_option linter.unusedSimpArgs false
set_option linter.unusedVariables false
theorem en_Tover4 : Enters Tryd.prog 134 := ⟨_, Tryd.func134, by kernel_rfl, rfl⟩
theorem over4_any {Sp : Option Nat} {K : Nat → World → Prop} {g : S4 → Nat} {M : Nat} {J : S4 → S4 → S4} {f : FuncId} {caps : Array Value} {z : S4} (hJ : JoinOP Tryd.prog encS4 Sp K g M J f caps)
    {tb xb n : Nat} {zz : S4} {rv : Value} {k : ByteArray} {v : V4} {s : S4} {l r : T4} {pl pr : Value} {w : World}
    (ht : TreeAt4 w tb zz (.func (.func f) caps #[]) rv) (htn : Sp ≠ some tb) (hx : RowAt4 w xb k v s) (hxn : Sp ≠ some xb)
    (hl : IsTree4 Sp J z w pl l) (hr : IsTree4 Sp J z w pr r) (hk : K n w) (hsz : (Tr.node l k v s r).size ≤ 4611686018427387904) (hwt : (Tr.node l k v s r).wt g ≤ M) :
    Calls Tryd.prog 134 #[.pointer (some ⟨tb, 0, none⟩), .pointer (some ⟨xb, 0, none⟩), pl, pr] w (Made4 Sp J z K n 2 (.node l k v s r) w) := by
  obtain ⟨N, hN⟩ : ∃ N, N = (Tr.node l k v s r).size := ⟨_, rfl⟩
  obtain ⟨H, hH⟩ : ∃ H, H = (Tr.node l k v s r).high := ⟨_, rfl⟩
  have e1 : IntKind.i64.wrap ((l.size : Int) + 1) = (l.size : Int) + 1 := by rw [IntKind.wrap_i64]; simp only [Tr.size] at hsz; omega
  have e2 : IntKind.i64.wrap ((l.size : Int) + 1 + (r.size : Int)) = (N : Int) := by rw [IntKind.wrap_i64, hN]; simp only [Tr.size] at hsz ⊢; omega
  obtain ⟨mx, hmx⟩ : ∃ mx : Int, (if l.high < r.high then (r.high : Int) else (l.high : Int)) = mx := ⟨_, rfl⟩
  have e3 : IntKind.i64.wrap (1 + mx) = (H : Int) := by
    have := Tr.high_le l; have := Tr.high_le r
    rw [IntKind.wrap_i64, hH, ← hmx]; simp only [Tr.size, Tr.high] at hsz ⊢; split <;> omega
  have HNH := hid_mk (And.intro hN hH)
  have HL := hid_mk hl
  have HR := hid_mk hr
  have HK := hid_mk hk
  have HT := hid_mk ht
  have HWl := hid_mk (fun h => Tr.wt_sum (z := z) hJ.wtJ l h)
  have HWr := hid_mk (fun h => Tr.wt_sum (z := z) hJ.wtJ r h)
  have HWT := hid_mk (show l.wt g + g s + r.wt g ≤ M from hwt)
  obtain ⟨x0, x1, x2, x3, x4, x5, x6, x7, x8⟩ := hx
  have hxlt := cell_lt x0
  obtain ⟨pa, rfl, hpa⟩ := HL.out.ptr
  obtain ⟨pb, rfl, hpb⟩ := HR.out.ptr
  clear ht hl hr hk hsz hN hH hwt
  have HPA := hid_mk hpa
  have HPB := hid_mk hpb
  clear hpa hpb
  go_enter Tryd.func134, Tryd.ntmps134
  go_wp2_with fail
  refine wp_region_held_below (fun _ => true) (.quiet 0 (.quiet 1 (.quiet 2 (.quiet 3 (.quiet 4 (.quiet 5 (.quiet 6 (.quiet 7 (.quiet 8 (.quiet 9 (.quiet 10 (.quiet 11 (.quiet 12 (.quiet 13 (.quiet 14 (.quiet 15 (.quiet 16 (.quiet 17 (.quiet 18 (.quiet 19 (.quiet 20 (.quiet 21 (.quiet 22 (.quiet 23 (.quiet 24 (.quiet 25 (.quiet 26 (.quiet 27 (.quiet 28 (.quiet 29 (.quiet 30 (.alt 31 (.quiet 32 .done) .stop)))))))))))))))))))))))))))))))) (by kernel_rfl) (by kernel_rfl) (by intro c a w d v h; cases d <;> exact h) (fun ops HO => ?_)
  refine plan_read _ (hi_of HO rfl) rfl (fun w' hE => by (repeat (with_reducible replace hE := Ext.unD hE)); have hcE := hE.hc; clear hE; go_simp; rfl) ?_
  simp only [Act.put, List.setIfInBounds_toArray, List.set_cons_succ, List.set_cons_zero]
  refine plan_read _ (hi_of HO rfl) rfl (fun w' hE => by (repeat (with_reducible replace hE := Ext.unD hE)); have hcE := hE.hc; clear hE; go_simp; rfl) ?_
  simp only [Act.put, List.setIfInBounds_toArray, List.set_cons_succ, List.set_cons_zero]
  refine plan_read _ (hi_of HO rfl) rfl (fun w' hE => by (repeat (with_reducible replace hE := Ext.unD hE)); have hcE := hE.hc; clear hE; go_simp; rfl) ?_
  simp only [Act.put, List.setIfInBounds_toArray, List.set_cons_succ, List.set_cons_zero]
  refine plan_read _ (hi_of HO rfl) rfl (fun w' hE => by (repeat (with_reducible replace hE := Ext.unD hE)); have hcE := hE.hc; clear hE; go_simp; rfl) ?_
  simp only [Act.put, List.setIfInBounds_toArray, List.set_cons_succ, List.set_cons_zero]
  refine plan_read _ (hi_of HO rfl) rfl (fun w' hE => by (repeat (with_reducible replace hE := Ext.unD hE)); have hcE := hE.hc; clear hE; go_simp; rfl) ?_
  simp only [Act.put, List.setIfInBounds_toArray, List.set_cons_succ, List.set_cons_zero]
  refine plan_read _ (hi_of HO rfl) rfl (fun w' hE => by (repeat (with_reducible replace hE := Ext.unD hE)); have hcE := hE.hc; clear hE; go_simp; rfl) ?_
  simp only [Act.put, List.setIfInBounds_toArray, List.set_cons_succ, List.set_cons_zero]
  refine plan_read _ (hi_of HO rfl) rfl (fun w' hE => by (repeat (with_reducible replace hE := Ext.unD hE)); have hcE := hE.hc; clear hE; go_simp; rfl) ?_
  simp only [Act.put, List.setIfInBounds_toArray, List.set_cons_succ, List.set_cons_zero]
  refine plan_read _ (hi_of HO rfl) rfl (fun w' hE => by (repeat (with_reducible replace hE := Ext.unD hE)); have hcE := hE.hc; clear hE; go_simp; rfl) ?_
  simp only [Act.put, List.setIfInBounds_toArray, List.set_cons_succ, List.set_cons_zero]
  refine plan_read _ (hi_of HO rfl) rfl (fun w' hE => by (repeat (with_reducible replace hE := Ext.unD hE)); have hcE := hE.hc; clear hE; go_simp; rfl) ?_
  simp only [Act.put, List.setIfInBounds_toArray, List.set_cons_succ, List.set_cons_zero]
  refine plan_read _ (hi_of HO rfl) rfl (fun w' hE => by (repeat (with_reducible replace hE := Ext.unD hE)); have hcE := hE.hc; clear hE; go_simp; rfl) ?_
  simp only [Act.put, List.setIfInBounds_toArray, List.set_cons_succ, List.set_cons_zero]
  refine plan_read _ (hi_of HO rfl) rfl (fun w' hE => by (repeat (with_reducible replace hE := Ext.unD hE)); have hcE := hE.hc; clear hE; go_simp; rfl) ?_
  simp only [Act.put, List.setIfInBounds_toArray, List.set_cons_succ, List.set_cons_zero]
  refine plan_read _ (hi_of HO rfl) rfl (fun w' hE => by (repeat (with_reducible replace hE := Ext.unD hE)); have hcE := hE.hc; clear hE; go_simp; rfl) ?_
  simp only [Act.put, List.setIfInBounds_toArray, List.set_cons_succ, List.set_cons_zero]
  refine plan_read _ (hi_of HO rfl) rfl (fun w' hE => by (repeat (with_reducible replace hE := Ext.unD hE)); have hcE := hE.hc; clear hE; go_simp; rfl) ?_
  simp only [Act.put, List.setIfInBounds_toArray, List.set_cons_succ, List.set_cons_zero]
  refine plan_read _ (hi_of HO rfl) rfl (fun w' hE => by (repeat (with_reducible replace hE := Ext.unD hE)); have hcE := hE.hc; clear hE; go_simp; rfl) ?_
  simp only [Act.put, List.setIfInBounds_toArray, List.set_cons_succ, List.set_cons_zero]
  refine plan_read _ (hi_of HO rfl) rfl (fun w' hE => by (repeat (with_reducible replace hE := Ext.unD hE)); have hcE := hE.hc; clear hE; go_simp; rfl) ?_
  simp only [Act.put, List.setIfInBounds_toArray, List.set_cons_succ, List.set_cons_zero]
  refine plan_read _ (hi_of HO rfl) rfl (fun w' hE => by (repeat (with_reducible replace hE := Ext.unD hE)); have hcE := hE.hc; clear hE; go_simp; rfl) ?_
  simp only [Act.put, List.setIfInBounds_toArray, List.set_cons_succ, List.set_cons_zero]
  refine plan_read _ (hi_of HO rfl) rfl (fun w' hE => by (repeat (with_reducible replace hE := Ext.unD hE)); have hcE := hE.hc; clear hE; go_simp; rfl) ?_
  simp only [Act.put, List.setIfInBounds_toArray, List.set_cons_succ, List.set_cons_zero]
  refine plan_read _ (hi_of HO rfl) rfl (fun w' hE => by (repeat (with_reducible replace hE := Ext.unD hE)); have hcE := hE.hc; clear hE; go_simp; rfl) ?_
  simp only [Act.put, List.setIfInBounds_toArray, List.set_cons_succ, List.set_cons_zero]
  refine plan_read _ (hi_of HO rfl) rfl (fun w' hE => by (repeat (with_reducible replace hE := Ext.unD hE)); have hcE := hE.hc; clear hE; go_simp; rfl) ?_
  simp only [Act.put, List.setIfInBounds_toArray, List.set_cons_succ, List.set_cons_zero]
  refine plan_pure _ en_Tmany4 (hi_of HO rfl) rfl rfl (by go_simp; rfl) (fun w' hE => by exact many4_any (HL.out.xt (Xt.of (Ext.unD hE)))) ?_
  simp only [Act.put, List.setIfInBounds_toArray, List.set_cons_succ, List.set_cons_zero]
  refine plan_read _ (hi_of HO rfl) rfl (fun w' hE => by (repeat (with_reducible replace hE := Ext.unD hE)); have hcE := hE.hc; clear hE; go_simp; rfl) ?_
  simp only [Act.put, List.setIfInBounds_toArray, List.set_cons_succ, List.set_cons_zero]
  refine plan_read _ (hi_of HO rfl) rfl (fun w' hE => by (repeat (with_reducible replace hE := Ext.unD hE)); have hcE := hE.hc; clear hE; go_simp; rfl) ?_
  simp only [Act.put, List.setIfInBounds_toArray, List.set_cons_succ, List.set_cons_zero]
  refine plan_pure _ en_Tmany4 (hi_of HO rfl) rfl rfl (by go_simp; rfl) (fun w' hE => by exact many4_any (HR.out.xt (Xt.of (Ext.unD hE)))) ?_
  simp only [Act.put, List.setIfInBounds_toArray, List.set_cons_succ, List.set_cons_zero]
  refine plan_read _ (hi_of HO rfl) rfl (fun w' hE => by (repeat (with_reducible replace hE := Ext.unD hE)); have hcE := hE.hc; clear hE; go_simp; rfl) ?_
  simp only [Act.put, List.setIfInBounds_toArray, List.set_cons_succ, List.set_cons_zero]
  refine plan_read _ (hi_of HO rfl) rfl (fun w' hE => by (repeat (with_reducible replace hE := Ext.unD hE)); have hcE := hE.hc; clear hE; go_simp; rfl) ?_
  simp only [Act.put, List.setIfInBounds_toArray, List.set_cons_succ, List.set_cons_zero]
  refine plan_pure _ en_Thigh4 (hi_of HO rfl) rfl rfl (by go_simp; rfl) (fun w' hE => by exact high4_any (HL.out.xt (Xt.of (Ext.unD hE)))) ?_
  simp only [Act.put, List.setIfInBounds_toArray, List.set_cons_succ, List.set_cons_zero]
  refine plan_read _ (hi_of HO rfl) rfl (fun w' hE => by (repeat (with_reducible replace hE := Ext.unD hE)); have hcE := hE.hc; clear hE; go_simp; rfl) ?_
  simp only [Act.put, List.setIfInBounds_toArray, List.set_cons_succ, List.set_cons_zero]
  refine plan_pure _ en_Thigh4 (hi_of HO rfl) rfl rfl (by go_simp; rfl) (fun w' hE => by exact high4_any (HR.out.xt (Xt.of (Ext.unD hE)))) ?_
  simp only [Act.put, List.setIfInBounds_toArray, List.set_cons_succ, List.set_cons_zero]
  refine plan_read _ (hi_of HO rfl) rfl (fun w' hE => by (repeat (with_reducible replace hE := Ext.unD hE)); have hcE := hE.hc; clear hE; go_simp; rfl) ?_
  simp only [Act.put, List.setIfInBounds_toArray, List.set_cons_succ, List.set_cons_zero]
  refine plan_read _ (hi_of HO rfl) rfl (fun w' hE => by (repeat (with_reducible replace hE := Ext.unD hE)); have hcE := hE.hc; clear hE; go_simp; rfl) ?_
  simp only [Act.put, List.setIfInBounds_toArray, List.set_cons_succ, List.set_cons_zero]
  refine plan_read _ (hi_of HO rfl) rfl (fun w' hE => by (repeat (with_reducible replace hE := Ext.unD hE)); have hcE := hE.hc; clear hE; go_simp; rfl) ?_
  simp only [Act.put, List.setIfInBounds_toArray, List.set_cons_succ, List.set_cons_zero]
  refine plan_loud1 (hi_of HO rfl) rfl ?_
  go_simp
  refine ⟨by (repeat (first | exact Ext.refl _ | apply Ext.drew_left | apply Ext.drew | apply Ext.alloc)), ?_⟩
  refine plan_read _ (hi_of HO rfl) rfl (fun w' hE => by (repeat (with_reducible replace hE := Ext.unD hE)); have hcE := hE.hc; clear hE; go_simp; rfl) ?_
  simp only [Act.put, List.setIfInBounds_toArray, List.set_cons_succ, List.set_cons_zero]
  refine plan_done ?fin101
  have hfr : Sp ≠ some w.heap.size := hJ.fresh HK.out _ (Nat.le_refl _)
  refine gen_world (P := Tryd.prog) (fun W => Fresh4 W w.heap.size k v s s (.pointer pa) (.pointer pb) N H ∧ Ext w W) ⟨⟨⟨by go_simp, by go_simp, by go_simp, by go_simp, by go_simp, by go_simp, by go_simp, by go_simp, by go_simp, by go_simp, by go_simp, by go_simp, by go_simp, by go_simp, by go_simp, by go_simp⟩, by go_simp, by go_simp, by go_simp⟩, by (repeat (first | exact Ext.refl _ | apply Ext.drew_left | apply Ext.drew | apply Ext.alloc))⟩ ?_
  rintro W ⟨hF, hX⟩
  clear x0 x1 x2 x3 x4 x5 x6 x7 x8 hxlt e1 e2 e3 hmx HO
  have HF := hid_mk hF
  have HX := hid_mk (Xt.of (S := Sp) hX)
  replace HK := hid_mk (hJ.kext HK.out hX)
  clear hF hX
  generalize hnb : w.heap.size = nb at *
  have HNB := hid_mk (Nat.le_of_eq hnb)
  clear hnb
  cases l with
  | nil =>
    obtain rfl : pa = none := by simpa [Tr.isNil] using HPA.out
    cases r with
    | nil =>
      obtain rfl : pb = none := by simpa [Tr.isNil] using HPB.out
      have hse : (Tr.node Tr.nil k v s Tr.nil).sum J z = s := by rfl
      go_wp2
      go_ret
      have e := HNH.out
      have hfn := HF.out.at_
      rw [e.1, e.2] at hfn
      exact ⟨_, 0, rfl, ⟨_, _, _, rfl, hfr, (by rw [hse]; exact hfn), HL.out.xt HX.out, HR.out.xt HX.out⟩, HX.out, HK.out, by omega⟩
    | node rl rk rvv rs rr =>
      generalize hsr : (Tr.node rl rk rvv rs rr).sum J z = sr at *
      have HWB := hid_mk (show g (s) + g sr ≤ M by have := HWr.out rfl; have := HWT.out; omega)
      obtain ⟨lb2, p1, p2, e, hlbn2, hLN, hL1, hL2⟩ := HR.out
      obtain rfl : pb = some ⟨lb2, 0, none⟩ := by simpa using e
      rw [hsr] at hLN
      have hse : (Tr.node Tr.nil k v s (Tr.node rl rk rvv rs rr)).sum J z = J (s) sr := by rw [← hsr]; rfl
      obtain ⟨-, -, -, -, -, -, -, -, -, l9, l10, l11, -, -, -, -⟩ := hLN.xt HX.out hlbn2
      obtain ⟨-, -, -, t3, -⟩ := HT.out.xt HX.out htn
      obtain ⟨-, -, -, -, -, -, -, -, -, n9, n10, n11, -, -, -, -⟩ := HF.out.at_
      have hlblt := cell_lt l9
      have htblt := cell_lt t3
      have hnblt := cell_lt n9
      clear hsr hL1 hL2 e
      replace hse := hid_mk hse
      go_wp2_with fail
      refine wp_region_held_plan (Xt Sp) (fun i => i != 16) (.quiet 0 (.quiet 1 (.quiet 2 (.quiet 3 (.quiet 4 (.quiet 5 (.quiet 6 (.quiet 7 (.quiet 8 (.quiet 9 (.quiet 10 (.quiet 11 (.quiet 12 (.alt 13 (.alt 14 (.quiet 15 (.alt 16 .done .stop)) .stop) .stop)))))))))))))) (by kernel_rfl) (by kernel_rfl) Xt.refl Xt.trans (by intro c a w d v h; cases d <;> exact h) (fun ops HO => ?_)
      refine plan_read _ (hi_of HO rfl) rfl (fun w' hE => by (repeat (with_reducible replace hE := Xt.unD hE)); have hcE := hE.hc; clear hE; go_simp; rfl) ?_
      simp only [Act.put, List.setIfInBounds_toArray, List.set_cons_succ, List.set_cons_zero]
      refine plan_read _ (hi_of HO rfl) rfl (fun w' hE => by (repeat (with_reducible replace hE := Xt.unD hE)); have hcE := hE.hc; clear hE; go_simp; rfl) ?_
      simp only [Act.put, List.setIfInBounds_toArray, List.set_cons_succ, List.set_cons_zero]
      refine plan_read _ (hi_of HO rfl) rfl (fun w' hE => by (repeat (with_reducible replace hE := Xt.unD hE)); have hcE := hE.hc; clear hE; go_simp; rfl) ?_
      simp only [Act.put, List.setIfInBounds_toArray, List.set_cons_succ, List.set_cons_zero]
      refine plan_read _ (hi_of HO rfl) rfl (fun w' hE => by (repeat (with_reducible replace hE := Xt.unD hE)); have hcE := hE.hc; clear hE; go_simp; rfl) ?_
      simp only [Act.put, List.setIfInBounds_toArray, List.set_cons_succ, List.set_cons_zero]
      refine plan_read _ (hi_of HO rfl) rfl (fun w' hE => by (repeat (with_reducible replace hE := Xt.unD hE)); have hcE := hE.hc; clear hE; go_simp; rfl) ?_
      simp only [Act.put, List.setIfInBounds_toArray, List.set_cons_succ, List.set_cons_zero]
      refine plan_read _ (hi_of HO rfl) rfl (fun w' hE => by (repeat (with_reducible replace hE := Xt.unD hE)); have hcE := hE.hc; clear hE; go_simp; rfl) ?_
      simp only [Act.put, List.setIfInBounds_toArray, List.set_cons_succ, List.set_cons_zero]
      refine plan_read _ (hi_of HO rfl) rfl (fun w' hE => by (repeat (with_reducible replace hE := Xt.unD hE)); have hcE := hE.hc; clear hE; go_simp; rfl) ?_
      simp only [Act.put, List.setIfInBounds_toArray, List.set_cons_succ, List.set_cons_zero]
      refine plan_read _ (hi_of HO rfl) rfl (fun w' hE => by (repeat (with_reducible replace hE := Xt.unD hE)); have hcE := hE.hc; clear hE; go_simp; rfl) ?_
      simp only [Act.put, List.setIfInBounds_toArray, List.set_cons_succ, List.set_cons_zero]
      refine plan_read _ (hi_of HO rfl) rfl (fun w' hE => by (repeat (with_reducible replace hE := Xt.unD hE)); have hcE := hE.hc; clear hE; go_simp; rfl) ?_
      simp only [Act.put, List.setIfInBounds_toArray, List.set_cons_succ, List.set_cons_zero]
      refine plan_read _ (hi_of HO rfl) rfl (fun w' hE => by (repeat (with_reducible replace hE := Xt.unD hE)); have hcE := hE.hc; clear hE; go_simp; rfl) ?_
      simp only [Act.put, List.setIfInBounds_toArray, List.set_cons_succ, List.set_cons_zero]
      refine plan_read _ (hi_of HO rfl) rfl (fun w' hE => by (repeat (with_reducible replace hE := Xt.unD hE)); have hcE := hE.hc; clear hE; go_simp; rfl) ?_
      simp only [Act.put, List.setIfInBounds_toArray, List.set_cons_succ, List.set_cons_zero]
      refine plan_read _ (hi_of HO rfl) rfl (fun w' hE => by (repeat (with_reducible replace hE := Xt.unD hE)); have hcE := hE.hc; clear hE; go_simp; rfl) ?_
      simp only [Act.put, List.setIfInBounds_toArray, List.set_cons_succ, List.set_cons_zero]
      refine plan_read _ (hi_of HO rfl) rfl (fun w' hE => by (repeat (with_reducible replace hE := Xt.unD hE)); have hcE := hE.hc; clear hE; go_simp; rfl) ?_
      simp only [Act.put, List.setIfInBounds_toArray, List.set_cons_succ, List.set_cons_zero]
      refine plan_callp1 hJ.enters (hi_of HO rfl) rfl rfl (by go_simp; rfl) (by go_simp; rfl) (by exact (hJ.call (s) sr _ _ (hJ.kext HK.out (by (repeat (first | exact Ext.refl _ | apply Ext.drew_left | apply Ext.drew | apply Ext.alloc)))) HWB.out)) ?_
      rintro e v9 ⟨rfl, hx9, hk9⟩
      refine ⟨_, rfl, fun _ => hx9, ?_⟩
      replace hx9 := Xt.unD hx9
      have HF9 := hid_mk (HF.out.xt hx9 hfr)
      have HX9 := hid_mk (Xt.trans _ _ _ HX.out hx9)
      have HK9 := hid_mk hk9
      have hz0 := HF9.out.f0
      have hz1 := HF9.out.f1
      have hz2 := HF9.out.f2
      have y9 := HF9.out.at_.c9
      have y10 := HF9.out.at_.c10
      have y11 := HF9.out.at_.c11
      have hnb9 := cell_lt HF9.out.at_.c0
      clear hx9 hk9
      simp only [Act.put, List.setIfInBounds_toArray, List.set_cons_succ, List.set_cons_zero]
      refine plan_loud1 (hi_of HO rfl) rfl ?_
      go_simp
      refine ⟨by (repeat (first | exact Xt.refl _ | apply Xt.drew_left | apply Xt.drew | apply Xt.alloc)), ?_⟩
      refine plan_read _ (hi_of HO rfl) rfl (fun w' hE => by (repeat (with_reducible replace hE := Xt.unD hE)); have hcE := hE.hc; clear hE; go_simp; rfl) ?_
      simp only [Act.put, List.setIfInBounds_toArray, List.set_cons_succ, List.set_cons_zero]
      refine plan_loud1 (hi_of HO rfl) rfl ?_
      go_simp
      skip
      refine plan_done ?fin102
      clear HO
      refine gen_world (P := Tryd.prog) (fun W' => Fresh4 W' nb k v s (J (s) sr) (.pointer none) (.pointer (some ⟨lb2, 0, none⟩)) N H ∧ Xt Sp w W' ∧ K ((n + 0) + 1) W') ⟨HF9.out.set, HX9.out|>.set HNB.out |>.set HNB.out |>.set HNB.out, hJ.kset (hJ.kset (hJ.kset HK9.out hfr) hfr) hfr⟩ ?_
      clear HF9 HX9 HK9 hz0 hnb9 HK HF HX
      clear hz1 hz2 y9 y10 y11 t3 n9 n10 n11 hlblt htblt hnblt l9 l10 l11
      clear W
      rintro W ⟨hF, hX, hk⟩
      have HF := hid_mk hF
      have HX := hid_mk hX
      have HK := hid_mk hk
      clear hF hX hk
      replace hse := hse.out
      go_wp2
      go_ret
      have e := HNH.out
      have hfn := HF.out.at_
      rw [e.1, e.2] at hfn
      exact ⟨_, 0 + 1, rfl, ⟨_, _, _, rfl, hfr, (by rw [hse]; exact hfn), HL.out.xt HX.out, HR.out.xt HX.out⟩, HX.out, HK.out, by omega⟩
  | node ll lk lv ls lr =>
    generalize hsm : (Tr.node ll lk lv ls lr).sum J z = sl at *
    have HWA := hid_mk (show g sl + g s ≤ M by have := HWl.out rfl; have := HWT.out; omega)
    obtain ⟨lb, p1, p2, e, hlbn, hLN, hL1, hL2⟩ := HL.out
    obtain rfl : pa = some ⟨lb, 0, none⟩ := by simpa using e
    rw [hsm] at hLN
    have HSM := hid_mk hsm
    obtain ⟨-, -, -, -, -, -, -, -, -, l9, l10, l11, -, -, -, -⟩ := hLN.xt HX.out hlbn
    obtain ⟨-, -, -, t3, -⟩ := HT.out.xt HX.out htn
    obtain ⟨-, -, -, -, -, -, -, -, -, n9, n10, n11, -, -, -, -⟩ := HF.out.at_
    have hlblt := cell_lt l9
    have htblt := cell_lt t3
    have hnblt := cell_lt n9
    clear hsm hL1 hL2 e
    go_wp2_with fail
    refine wp_region_held_plan (Xt Sp) (fun i => i != 16) (.quiet 0 (.quiet 1 (.quiet 2 (.quiet 3 (.quiet 4 (.quiet 5 (.quiet 6 (.quiet 7 (.quiet 8 (.quiet 9 (.quiet 10 (.quiet 11 (.quiet 12 (.alt 13 (.alt 14 (.quiet 15 (.alt 16 .done .stop)) .stop) .stop)))))))))))))) (by kernel_rfl) (by kernel_rfl) Xt.refl Xt.trans (by intro c a w d v h; cases d <;> exact h) (fun ops HO => ?_)
    refine plan_read _ (hi_of HO rfl) rfl (fun w' hE => by (repeat (with_reducible replace hE := Xt.unD hE)); have hcE := hE.hc; clear hE; go_simp; rfl) ?_
    simp only [Act.put, List.setIfInBounds_toArray, List.set_cons_succ, List.set_cons_zero]
    refine plan_read _ (hi_of HO rfl) rfl (fun w' hE => by (repeat (with_reducible replace hE := Xt.unD hE)); have hcE := hE.hc; clear hE; go_simp; rfl) ?_
    simp only [Act.put, List.setIfInBounds_toArray, List.set_cons_succ, List.set_cons_zero]
    refine plan_read _ (hi_of HO rfl) rfl (fun w' hE => by (repeat (with_reducible replace hE := Xt.unD hE)); have hcE := hE.hc; clear hE; go_simp; rfl) ?_
    simp only [Act.put, List.setIfInBounds_toArray, List.set_cons_succ, List.set_cons_zero]
    refine plan_read _ (hi_of HO rfl) rfl (fun w' hE => by (repeat (with_reducible replace hE := Xt.unD hE)); have hcE := hE.hc; clear hE; go_simp; rfl) ?_
    simp only [Act.put, List.setIfInBounds_toArray, List.set_cons_succ, List.set_cons_zero]
    refine plan_read _ (hi_of HO rfl) rfl (fun w' hE => by (repeat (with_reducible replace hE := Xt.unD hE)); have hcE := hE.hc; clear hE; go_simp; rfl) ?_
    simp only [Act.put, List.setIfInBounds_toArray, List.set_cons_succ, List.set_cons_zero]
    refine plan_read _ (hi_of HO rfl) rfl (fun w' hE => by (repeat (with_reducible replace hE := Xt.unD hE)); have hcE := hE.hc; clear hE; go_simp; rfl) ?_
    simp only [Act.put, List.setIfInBounds_toArray, List.set_cons_succ, List.set_cons_zero]
    refine plan_read _ (hi_of HO rfl) rfl (fun w' hE => by (repeat (with_reducible replace hE := Xt.unD hE)); have hcE := hE.hc; clear hE; go_simp; rfl) ?_
    simp only [Act.put, List.setIfInBounds_toArray, List.set_cons_succ, List.set_cons_zero]
    refine plan_read _ (hi_of HO rfl) rfl (fun w' hE => by (repeat (with_reducible replace hE := Xt.unD hE)); have hcE := hE.hc; clear hE; go_simp; rfl) ?_
    simp only [Act.put, List.setIfInBounds_toArray, List.set_cons_succ, List.set_cons_zero]
    refine plan_read _ (hi_of HO rfl) rfl (fun w' hE => by (repeat (with_reducible replace hE := Xt.unD hE)); have hcE := hE.hc; clear hE; go_simp; rfl) ?_
    simp only [Act.put, List.setIfInBounds_toArray, List.set_cons_succ, List.set_cons_zero]
    refine plan_read _ (hi_of HO rfl) rfl (fun w' hE => by (repeat (with_reducible replace hE := Xt.unD hE)); have hcE := hE.hc; clear hE; go_simp; rfl) ?_
    simp only [Act.put, List.setIfInBounds_toArray, List.set_cons_succ, List.set_cons_zero]
    refine plan_read _ (hi_of HO rfl) rfl (fun w' hE => by (repeat (with_reducible replace hE := Xt.unD hE)); have hcE := hE.hc; clear hE; go_simp; rfl) ?_
    simp only [Act.put, List.setIfInBounds_toArray, List.set_cons_succ, List.set_cons_zero]
    refine plan_read _ (hi_of HO rfl) rfl (fun w' hE => by (repeat (with_reducible replace hE := Xt.unD hE)); have hcE := hE.hc; clear hE; go_simp; rfl) ?_
    simp only [Act.put, List.setIfInBounds_toArray, List.set_cons_succ, List.set_cons_zero]
    refine plan_read _ (hi_of HO rfl) rfl (fun w' hE => by (repeat (with_reducible replace hE := Xt.unD hE)); have hcE := hE.hc; clear hE; go_simp; rfl) ?_
    simp only [Act.put, List.setIfInBounds_toArray, List.set_cons_succ, List.set_cons_zero]
    refine plan_callp1 hJ.enters (hi_of HO rfl) rfl rfl (by go_simp; rfl) (by go_simp; rfl) (by exact (hJ.call sl s _ _ (hJ.kext HK.out (by (repeat (first | exact Ext.refl _ | apply Ext.drew_left | apply Ext.drew | apply Ext.alloc)))) HWA.out)) ?_
    rintro e v9 ⟨rfl, hx9, hk9⟩
    refine ⟨_, rfl, fun _ => hx9, ?_⟩
    replace hx9 := Xt.unD hx9
    have HF9 := hid_mk (HF.out.xt hx9 hfr)
    have HX9 := hid_mk (Xt.trans _ _ _ HX.out hx9)
    have HK9 := hid_mk hk9
    have hz0 := HF9.out.f0
    have hz1 := HF9.out.f1
    have hz2 := HF9.out.f2
    have y9 := HF9.out.at_.c9
    have y10 := HF9.out.at_.c10
    have y11 := HF9.out.at_.c11
    have hnb9 := cell_lt HF9.out.at_.c0
    clear hx9 hk9
    simp only [Act.put, List.setIfInBounds_toArray, List.set_cons_succ, List.set_cons_zero]
    refine plan_loud1 (hi_of HO rfl) rfl ?_
    go_simp
    refine ⟨by (repeat (first | exact Xt.refl _ | apply Xt.drew_left | apply Xt.drew | apply Xt.alloc)), ?_⟩
    refine plan_read _ (hi_of HO rfl) rfl (fun w' hE => by (repeat (with_reducible replace hE := Xt.unD hE)); have hcE := hE.hc; clear hE; go_simp; rfl) ?_
    simp only [Act.put, List.setIfInBounds_toArray, List.set_cons_succ, List.set_cons_zero]
    refine plan_loud1 (hi_of HO rfl) rfl ?_
    go_simp
    skip
    refine plan_done ?fin103
    clear HO
    refine gen_world (P := Tryd.prog) (fun W' => Fresh4 W' nb k v s (J sl s) (.pointer (some ⟨lb, 0, none⟩)) (.pointer pb) N H ∧ Xt Sp w W' ∧ K (n + 1) W') ⟨HF9.out.set, HX9.out|>.set HNB.out |>.set HNB.out |>.set HNB.out, hJ.kset (hJ.kset (hJ.kset HK9.out hfr) hfr) hfr⟩ ?_
    clear HF9 HX9 HK9 hz0 hnb9 HK HF HX
    clear hz1 hz2 y9 y10 y11 t3 n9 n10 n11 hlblt htblt hnblt l9 l10 l11
    clear W
    rintro W ⟨hF, hX, hk⟩
    have HF := hid_mk hF
    have HX := hid_mk hX
    have HK := hid_mk hk
    clear hF hX hk
    cases r with
    | nil =>
      obtain rfl : pb = none := by simpa [Tr.isNil] using HPB.out
      have hse : (Tr.node (Tr.node ll lk lv ls lr) k v s Tr.nil).sum J z = J sl s := by (rw [← HSM.out]; rfl)
      go_wp2
      go_ret
      have e := HNH.out
      have hfn := HF.out.at_
      rw [e.1, e.2] at hfn
      exact ⟨_, 1, rfl, ⟨_, _, _, rfl, hfr, (by rw [hse]; exact hfn), HL.out.xt HX.out, HR.out.xt HX.out⟩, HX.out, HK.out, by omega⟩
    | node rl rk rvv rs rr =>
      generalize hsr : (Tr.node rl rk rvv rs rr).sum J z = sr at *
      have HWB := hid_mk (show g (J sl s) + g sr ≤ M by have := HWr.out rfl; have := HWT.out; (have := hJ.wtJ sl s; have := HWl.out rfl; omega))
      obtain ⟨lb2, p1, p2, e, hlbn2, hLN, hL1, hL2⟩ := HR.out
      obtain rfl : pb = some ⟨lb2, 0, none⟩ := by simpa using e
      rw [hsr] at hLN
      have hse : (Tr.node (Tr.node ll lk lv ls lr) k v s (Tr.node rl rk rvv rs rr)).sum J z = J (J sl s) sr := by rw [← hsr]; (rw [← HSM.out]; rfl)
      obtain ⟨-, -, -, -, -, -, -, -, -, l9, l10, l11, -, -, -, -⟩ := hLN.xt HX.out hlbn2
      obtain ⟨-, -, -, t3, -⟩ := HT.out.xt HX.out htn
      obtain ⟨-, -, -, -, -, -, -, -, -, n9, n10, n11, -, -, -, -⟩ := HF.out.at_
      have hlblt := cell_lt l9
      have htblt := cell_lt t3
      have hnblt := cell_lt n9
      clear hsr hL1 hL2 e
      replace hse := hid_mk hse
      go_wp2_with fail
      refine wp_region_held_plan (Xt Sp) (fun i => i != 16) (.quiet 0 (.quiet 1 (.quiet 2 (.quiet 3 (.quiet 4 (.quiet 5 (.quiet 6 (.quiet 7 (.quiet 8 (.quiet 9 (.quiet 10 (.quiet 11 (.quiet 12 (.alt 13 (.alt 14 (.quiet 15 (.alt 16 .done .stop)) .stop) .stop)))))))))))))) (by kernel_rfl) (by kernel_rfl) Xt.refl Xt.trans (by intro c a w d v h; cases d <;> exact h) (fun ops HO => ?_)
      refine plan_read _ (hi_of HO rfl) rfl (fun w' hE => by (repeat (with_reducible replace hE := Xt.unD hE)); have hcE := hE.hc; clear hE; go_simp; rfl) ?_
      simp only [Act.put, List.setIfInBounds_toArray, List.set_cons_succ, List.set_cons_zero]
      refine plan_read _ (hi_of HO rfl) rfl (fun w' hE => by (repeat (with_reducible replace hE := Xt.unD hE)); have hcE := hE.hc; clear hE; go_simp; rfl) ?_
      simp only [Act.put, List.setIfInBounds_toArray, List.set_cons_succ, List.set_cons_zero]
      refine plan_read _ (hi_of HO rfl) rfl (fun w' hE => by (repeat (with_reducible replace hE := Xt.unD hE)); have hcE := hE.hc; clear hE; go_simp; rfl) ?_
      simp only [Act.put, List.setIfInBounds_toArray, List.set_cons_succ, List.set_cons_zero]
      refine plan_read _ (hi_of HO rfl) rfl (fun w' hE => by (repeat (with_reducible replace hE := Xt.unD hE)); have hcE := hE.hc; clear hE; go_simp; rfl) ?_
      simp only [Act.put, List.setIfInBounds_toArray, List.set_cons_succ, List.set_cons_zero]
      refine plan_read _ (hi_of HO rfl) rfl (fun w' hE => by (repeat (with_reducible replace hE := Xt.unD hE)); have hcE := hE.hc; clear hE; go_simp; rfl) ?_
      simp only [Act.put, List.setIfInBounds_toArray, List.set_cons_succ, List.set_cons_zero]
      refine plan_read _ (hi_of HO rfl) rfl (fun w' hE => by (repeat (with_reducible replace hE := Xt.unD hE)); have hcE := hE.hc; clear hE; go_simp; rfl) ?_
      simp only [Act.put, List.setIfInBounds_toArray, List.set_cons_succ, List.set_cons_zero]
      refine plan_read _ (hi_of HO rfl) rfl (fun w' hE => by (repeat (with_reducible replace hE := Xt.unD hE)); have hcE := hE.hc; clear hE; go_simp; rfl) ?_
      simp only [Act.put, List.setIfInBounds_toArray, List.set_cons_succ, List.set_cons_zero]
      refine plan_read _ (hi_of HO rfl) rfl (fun w' hE => by (repeat (with_reducible replace hE := Xt.unD hE)); have hcE := hE.hc; clear hE; go_simp; rfl) ?_
      simp only [Act.put, List.setIfInBounds_toArray, List.set_cons_succ, List.set_cons_zero]
      refine plan_read _ (hi_of HO rfl) rfl (fun w' hE => by (repeat (with_reducible replace hE := Xt.unD hE)); have hcE := hE.hc; clear hE; go_simp; rfl) ?_
      simp only [Act.put, List.setIfInBounds_toArray, List.set_cons_succ, List.set_cons_zero]
      refine plan_read _ (hi_of HO rfl) rfl (fun w' hE => by (repeat (with_reducible replace hE := Xt.unD hE)); have hcE := hE.hc; clear hE; go_simp; rfl) ?_
      simp only [Act.put, List.setIfInBounds_toArray, List.set_cons_succ, List.set_cons_zero]
      refine plan_read _ (hi_of HO rfl) rfl (fun w' hE => by (repeat (with_reducible replace hE := Xt.unD hE)); have hcE := hE.hc; clear hE; go_simp; rfl) ?_
      simp only [Act.put, List.setIfInBounds_toArray, List.set_cons_succ, List.set_cons_zero]
      refine plan_read _ (hi_of HO rfl) rfl (fun w' hE => by (repeat (with_reducible replace hE := Xt.unD hE)); have hcE := hE.hc; clear hE; go_simp; rfl) ?_
      simp only [Act.put, List.setIfInBounds_toArray, List.set_cons_succ, List.set_cons_zero]
      refine plan_read _ (hi_of HO rfl) rfl (fun w' hE => by (repeat (with_reducible replace hE := Xt.unD hE)); have hcE := hE.hc; clear hE; go_simp; rfl) ?_
      simp only [Act.put, List.setIfInBounds_toArray, List.set_cons_succ, List.set_cons_zero]
      refine plan_callp1 hJ.enters (hi_of HO rfl) rfl rfl (by go_simp; rfl) (by go_simp; rfl) (by exact (hJ.call (J sl s) sr _ _ (hJ.kext HK.out (by (repeat (first | exact Ext.refl _ | apply Ext.drew_left | apply Ext.drew | apply Ext.alloc)))) HWB.out)) ?_
      rintro e v9 ⟨rfl, hx9, hk9⟩
      refine ⟨_, rfl, fun _ => hx9, ?_⟩
      replace hx9 := Xt.unD hx9
      have HF9 := hid_mk (HF.out.xt hx9 hfr)
      have HX9 := hid_mk (Xt.trans _ _ _ HX.out hx9)
      have HK9 := hid_mk hk9
      have hz0 := HF9.out.f0
      have hz1 := HF9.out.f1
      have hz2 := HF9.out.f2
      have y9 := HF9.out.at_.c9
      have y10 := HF9.out.at_.c10
      have y11 := HF9.out.at_.c11
      have hnb9 := cell_lt HF9.out.at_.c0
      clear hx9 hk9
      simp only [Act.put, List.setIfInBounds_toArray, List.set_cons_succ, List.set_cons_zero]
      refine plan_loud1 (hi_of HO rfl) rfl ?_
      go_simp
      refine ⟨by (repeat (first | exact Xt.refl _ | apply Xt.drew_left | apply Xt.drew | apply Xt.alloc)), ?_⟩
      refine plan_read _ (hi_of HO rfl) rfl (fun w' hE => by (repeat (with_reducible replace hE := Xt.unD hE)); have hcE := hE.hc; clear hE; go_simp; rfl) ?_
      simp only [Act.put, List.setIfInBounds_toArray, List.set_cons_succ, List.set_cons_zero]
      refine plan_loud1 (hi_of HO rfl) rfl ?_
      go_simp
      skip
      refine plan_done ?fin104
      clear HO
      refine gen_world (P := Tryd.prog) (fun W' => Fresh4 W' nb k v s (J (J sl s) sr) (.pointer (some ⟨lb, 0, none⟩)) (.pointer (some ⟨lb2, 0, none⟩)) N H ∧ Xt Sp w W' ∧ K ((n + 1) + 1) W') ⟨HF9.out.set, HX9.out|>.set HNB.out |>.set HNB.out |>.set HNB.out, hJ.kset (hJ.kset (hJ.kset HK9.out hfr) hfr) hfr⟩ ?_
      clear HF9 HX9 HK9 hz0 hnb9 HK HF HX
      clear hz1 hz2 y9 y10 y11 t3 n9 n10 n11 hlblt htblt hnblt l9 l10 l11
      clear W
      rintro W ⟨hF, hX, hk⟩
      have HF := hid_mk hF
      have HX := hid_mk hX
      have HK := hid_mk hk
      clear hF hX hk
      replace hse := hse.out
      go_wp2
      go_ret
      have e := HNH.out
      have hfn := HF.out.at_
      rw [e.1, e.2] at hfn
      exact ⟨_, 1 + 1, rfl, ⟨_, _, _, rfl, hfr, (by rw [hse]; exact hfn), HL.out.xt HX.out, HR.out.xt HX.out⟩, HX.out, HK.out, by omega⟩
end Go.Proofs.YtokcgnbjkbhmiaaDoor
