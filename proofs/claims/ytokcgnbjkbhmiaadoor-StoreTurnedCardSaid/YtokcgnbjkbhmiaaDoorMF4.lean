/- Parts in memory; what is wrong with one. -/
import Derived.Test.YtokcgnbjkbhmiaaDoorMF3
import Derived.ChangeKeysEq
namespace Go.Proofs.YtokcgnbjkbhmiaaDoor
open Go.RowKit
set_option maxHeartbeats 4000000
set_option maxRecDepth 100000
set_option linter.unusedSimpArgs false
set_option linter.unusedVariables false
theorem en_checkFields : Enters Tryd.prog 117 := ⟨_, Tryd.func117, by kernel_rfl, rfl⟩
theorem en_rpart : Enters Tryd.prog 121 := ⟨_, Tryd.func121, by kernel_rfl, rfl⟩
structure Prt where
  kind : Int
  lo : ByteArray
  hi : ByteArray
  op : Bool
  cnt : Int
  s0 : Int
  s1 : Int
  ents : List Ent

/-- The part's eight cells lie at an address; its entries behind them. -/
structure PrtAt (w : World) (b o : Nat) (sv : Value) (p : Prt) : Prop where
  c0 : w.cell? ⟨b, o, none⟩ = some (.int .i64 p.kind)
  c1 : w.cell? ⟨b, o + 1, none⟩ = some (.string p.lo)
  c2 : w.cell? ⟨b, o + 2, none⟩ = some (.string p.hi)
  c3 : w.cell? ⟨b, o + 3, none⟩ = some (.bool p.op)
  c4 : w.cell? ⟨b, o + 4, none⟩ = some (.int .i64 p.cnt)
  c5 : w.cell? ⟨b, o + 5, none⟩ = some (.int .u64 p.s0)
  c6 : w.cell? ⟨b, o + 6, none⟩ = some (.int .u64 p.s1)
  c7 : w.cell? ⟨b, o + 7, none⟩ = some sv
  es : EntSl w sv p.ents

theorem PrtAt.ext {w w' : World} {b o : Nat} {sv : Value} {p : Prt} (h : PrtAt w b o sv p) (hx : Ext w w') : PrtAt w' b o sv p :=
  ⟨cell_ext hx h.c0, cell_ext hx h.c1, cell_ext hx h.c2, cell_ext hx h.c3, cell_ext hx h.c4, cell_ext hx h.c5, cell_ext hx h.c6, cell_ext hx h.c7, h.es.ext hx⟩

def PrtSl (w : World) (v : Value) (l : List Prt) : Prop :=
  ∃ a c, v = .slice a l.length c ∧ l.length ≤ c ∧ l.length ≤ 4611686018427387904 ∧ (0 < l.length → ∃ b o, a = some ⟨b, o, none⟩ ∧ ∀ i, (h : i < l.length) → ∃ sv, PrtAt w b (o + i * 8) sv l[i])
theorem PrtSl.ext {w w' : World} {v : Value} {l : List Prt} (h : PrtSl w v l) (hx : Ext w w') : PrtSl w' v l := by
  obtain ⟨a, c, h1, h2, h3, h4⟩ := h
  exact ⟨a, c, h1, h2, h3, fun hp => let ⟨b, o, h5, h6⟩ := h4 hp; ⟨b, o, h5, fun i hi => let ⟨sv, h7⟩ := h6 i hi; ⟨sv, h7.ext hx⟩⟩⟩

theorem cells64 : Tryd.prog.cellsOf 28 = 1 := by kernel_rfl
theorem info64 : ∃ i, Tryd.prog.info? 28 = some i := ⟨_, by rfl⟩
theorem eqIn_sum (d : Nat) (w : World) (b c y z : Int) : (Op.equalIn (d + 2) 30 (.agg #[.int .u64 b, .int .u64 c]) (.agg #[.int .u64 y, .int .u64 z])).run Tryd.prog w = .ok (decide (b = y ∧ c = z)) w := by
  obtain ⟨i, hi⟩ := info64
  rw [run_equalIn_array w (d + 1) _ _ Tryd.underlying30 hi, cells64]
  simp only [List.range_succ, List.range_zero, List.nil_append, List.cons_append, Op.eqItems, Nat.zero_mul, Nat.one_mul]
  go_simp
  by_cases h2 : b = y <;> by_cases h3 : c = z <;> simp [*]
theorem eqIn_sum9998 (w : World) (b c y z : Int) : (Op.equalIn 9999 30 (.agg #[.int .u64 b, .int .u64 c]) (.agg #[.int .u64 y, .int .u64 z])).run Tryd.prog w = .ok (decide (b = y ∧ c = z)) w := eqIn_sum 9997 w b c y z
theorem eqIn_sum10000 (w : World) (b c y z : Int) : (Op.equalIn 10000 30 (.agg #[.int .u64 b, .int .u64 c]) (.agg #[.int .u64 y, .int .u64 z])).run Tryd.prog w = .ok (decide (b = y ∧ c = z)) w := eqIn_sum 9998 w b c y z
attribute [local go_sem ↓] eqIn_sum9998 eqIn_sum10000

theorem eql_tally (w : World) (a b c x y z : Int) : (binOp .eql 32 (.agg #[.int .i64 a, .int .u64 b, .int .u64 c]) (.agg #[.int .i64 x, .int .u64 y, .int .u64 z])).run Tryd.prog w = .ok (.bool (decide (a = x ∧ b = y ∧ c = z))) w := by
  go_simp
  by_cases h1 : a = x <;> by_cases h2 : b = y <;> by_cases h3 : c = z <;> simp [*]
theorem neq_tally (w : World) (a b c x y z : Int) : (binOp .neq 32 (.agg #[.int .i64 a, .int .u64 b, .int .u64 c]) (.agg #[.int .i64 x, .int .u64 y, .int .u64 z])).run Tryd.prog w = .ok (.bool (!decide (a = x ∧ b = y ∧ c = z))) w := by
  go_simp
  by_cases h1 : a = x <;> by_cases h2 : b = y <;> by_cases h3 : c = z <;> simp [*]
theorem eql_sum (w : World) (b c y z : Int) : (binOp .eql 30 (.agg #[.int .u64 b, .int .u64 c]) (.agg #[.int .u64 y, .int .u64 z])).run Tryd.prog w = .ok (.bool (decide (b = y ∧ c = z))) w := by
  go_simp
theorem neq_sum (w : World) (b c y z : Int) : (binOp .neq 30 (.agg #[.int .u64 b, .int .u64 c]) (.agg #[.int .u64 y, .int .u64 z])).run Tryd.prog w = .ok (.bool (!decide (b = y ∧ c = z))) w := by
  go_simp
attribute [local go_sem ↓] eql_tally neq_tally eql_sum neq_sum

def fieldsErr (p : Prt) : Int :=
  if p.kind < 1 ∨ 3 < p.kind ∨ (p.kind = 1 ∧ 0 < p.ents.length) ∨ (¬ p.kind = 1 ∧ ¬ (p.cnt = 0 ∧ p.s0 = 0 ∧ p.s1 = 0)) then 114 else 0

theorem checkFields_any (p : Prt) (sv : Value) (w : World) (hs : EntSl w sv p.ents) :
    Calls Tryd.prog 117 #[.agg #[.int .i64 p.kind, .string p.lo, .string p.hi, .bool p.op, .int .i64 p.cnt, .int .u64 p.s0, .int .u64 p.s1, sv]] w fun e w' => e = .returned (.int .i64 (fieldsErr p)) ∧ Ext w w' := by
  obtain ⟨a, c, rfl, hq⟩ := hs
  clear hq
  go_enter Tryd.func117, Tryd.ntmps117
  go_wp2
  all_goals go_ret
  all_goals (refine ⟨?_, (Ext.refl _).alloc _⟩)
  all_goals (refine ret_int ?_; simp only [fieldsErr]; split <;> first | rfl | (exfalso; simp_all; done) | (exfalso; simp_all; omega))

def tilesBad (prev : Option Prt) (p : Prt) : Bool :=
  (!p.op && p.lo.toList == p.hi.toList) || (match prev with | some q => q.op || Op.bytesLess p.lo.toList q.hi.toList | none => false)
def tallyBad (p : Prt) : Bool :=
  decide (p.cnt < 0) || decide (256 < p.cnt) || (decide (p.cnt = 0) && !decide (p.s0 = 0 ∧ p.s1 = 0))
def partChk (prev : Option Prt) (p : Prt) : Int :=
  if fieldsErr p ≠ 0 then 114
  else if rngCheck p.lo p.hi p.op ≠ 0 then rngCheck p.lo p.hi p.op
  else if tilesBad prev p = true then 115
  else if p.kind ≠ 1 then partItems p.kind p.lo p.hi p.op p.ents
  else if tallyBad p = true then 117 else 0
def prevPrt (l : List Prt) : Nat → Option Prt
  | 0 => none
  | k + 1 => l[k]?
end Go.Proofs.YtokcgnbjkbhmiaaDoor
