import Derived.Test.YtgglbohcnlcagaaProg
import Derived.WalkKit
import Derived.KernelRfl
import Derived.Outline
import Derived.WalkLawsBesides
import Derived.WalkSpells
import Derived.Test.YtgglbohcnlcagaaReg
namespace Go.Proofs.Ytgglbohcnlcagaa
open Go.RowKit
set_option maxHeartbeats 400000
set_option linter.unusedSimpArgs false
set_option linter.unusedVariables false

theorem en19 : Enters Try.prog 19 := ⟨_, Try.func19, by kernel_rfl, rfl⟩
theorem en20 : Enters Try.prog 20 := ⟨_, Try.func20, by kernel_rfl, rfl⟩
theorem en21 : Enters Try.prog 21 := ⟨_, Try.func21, by kernel_rfl, rfl⟩
theorem en22 : Enters Try.prog 22 := ⟨_, Try.func22, by kernel_rfl, rfl⟩
theorem en73 : Enters Try.prog 73 := ⟨_, Try.func73, by kernel_rfl, rfl⟩
theorem en74 : Enters Try.prog 74 := ⟨_, Try.func74, by kernel_rfl, rfl⟩

def cmpI (a b : Int) : Int := if a < b then -1 else if b < a then 1 else 0
def firstNZ : List Int → Int
  | [] => 0
  | x :: r => if x = 0 then firstNZ r else x

theorem isNaN_any (x : Int) (w : World) : Calls Try.prog 110 #[.int .i64 x] w fun e w' => e = .returned (.bool false) ∧ w = w' := by
  go_enter Try.func110, Try.ntmps110
  go_wp2
  go_ret
  exact ⟨rfl, rfl⟩

theorem cmpCompare_any (x y : Int) (w : World) : Calls Try.prog 74 #[.int .i64 x, .int .i64 y] w fun e w' => e = .returned (.int .i64 (cmpI x y)) ∧ w = w' := by
  unfold cmpI
  go_enter Try.func74, Try.ntmps74
  go_wp2_with (first | (go_at_call 110; refine (isNaN_any _ _).mono ?_; rintro e w' ⟨rfl, rfl⟩))
  all_goals go_ret
  all_goals (refine ⟨?_, rfl⟩; simp [*])

theorem order_any (x y : Int) (w : World) : Calls Try.prog 76 #[.int .i64 x, .int .i64 y] w fun e w' => e = .returned (.int .i64 (cmpI x y)) ∧ w = w' := by
  unfold cmpI
  go_enter Try.func76, Try.ntmps76
  go_wp2
  all_goals go_ret
  all_goals (refine ⟨?_, rfl⟩; simp [*])

theorem isNode_any (n : Int) (w : World) : Calls Try.prog 75 #[.int .i64 n] w fun e w' => e = .returned (.bool (decide (0 ≤ n ∧ n < 8))) ∧ w = w' := by
  go_enter Try.func75, Try.ntmps75
  go_wp2
  all_goals go_ret
  all_goals (refine ⟨?_, rfl⟩; refine ret_bool ?_; simp; try omega)

theorem end_any (n : Int) (w : World) : Calls Try.prog 67 #[.int .i64 n] w fun e w' => e = .returned (.bool (decide (0 ≤ n ∧ n < 8))) ∧ w = w' := by
  go_enter Try.func67, Try.ntmps67
  go_wp2
  all_goals go_ret
  all_goals (refine ⟨?_, rfl⟩; refine ret_bool ?_; simp; try omega)

def checkName (a b c : Int) : Int := if 0 ≤ a ∧ a < 8 then (if 1 ≤ b ∧ b ≤ 1048576 ∧ 1 ≤ c ∧ c ≤ 1048576 then 0 else 111) else 110

theorem checkName_any (a b c : Int) (w : World) : Calls Try.prog 20 #[.agg #[.int .i64 a, .int .i64 b, .int .i64 c]] w fun e w' => e = .returned (.int .i64 (checkName a b c)) ∧ Ext w w' := by
  unfold checkName
  go_enter Try.func20, Try.ntmps20
  go_wp2_with (first | (go_at_call 75; refine (isNode_any _ _).mono ?_; rintro e w' ⟨rfl, rfl⟩))
  all_goals go_ret
  all_goals (refine ⟨?_, (Ext.refl _).alloc _⟩)
  all_goals (refine ret_int ?_; (repeat' split) <;> first | rfl | (exfalso; simp at *; omega))

theorem rcheckName_any (a b c : Int) (w : World) : Calls Try.prog 21 #[.agg #[.int .i64 a, .int .i64 b, .int .i64 c]] w fun e w' => e = .returned (.int .i64 (checkName a b c)) ∧ Ext w w' := by
  unfold checkName
  go_enter Try.func21, Try.ntmps21
  go_wp2
  all_goals go_ret
  all_goals (refine ⟨?_, (Ext.refl _).alloc _⟩)
  all_goals (refine ret_int ?_; (repeat' split) <;> first | rfl | (exfalso; simp at *; omega))
theorem eql_name (w : World) (a b c x y z : Int) : (binOp .eql 23 (.agg #[.int .i64 a, .int .i64 b, .int .i64 c]) (.agg #[.int .i64 x, .int .i64 y, .int .i64 z])).run Try.prog w = .ok (.bool (decide (a = x ∧ b = y ∧ c = z))) w := by
  go_simp
  by_cases h1 : a = x <;> by_cases h2 : b = y <;> by_cases h3 : c = z <;> simp [*]
theorem neq_name (w : World) (a b c x y z : Int) : (binOp .neq 23 (.agg #[.int .i64 a, .int .i64 b, .int .i64 c]) (.agg #[.int .i64 x, .int .i64 y, .int .i64 z])).run Try.prog w = .ok (.bool (!decide (a = x ∧ b = y ∧ c = z))) w := by
  go_simp
  by_cases h1 : a = x <;> by_cases h2 : b = y <;> by_cases h3 : c = z <;> simp [*]
theorem eql_ver (w : World) (a b x y : Int) : (binOp .eql 43 (.agg #[.int .i64 a, .int .i64 b]) (.agg #[.int .i64 x, .int .i64 y])).run Try.prog w = .ok (.bool (decide (a = x ∧ b = y))) w := by
  go_simp
  by_cases h1 : a = x <;> by_cases h2 : b = y <;> simp [*]
end Go.Proofs.Ytgglbohcnlcagaa
