/- What the small functions on names, versions, ranges and entries compute. -/
import Derived.Test.YtgglbohcnlcagaaProg
import Derived.WalkKit
import Derived.KernelRfl
import Derived.Outline
import Derived.WalkLawsBesides
import Derived.WalkSpells
import Derived.Test.YtgglbohcnlcagaaReg
import Derived.Test.YtgglbohcnlcagaaStr
namespace Go.Proofs.Ytgglbohcnlcagaa
open Go.RowKit
set_option maxHeartbeats 1000000
set_option linter.unusedSimpArgs false
set_option linter.unusedVariables false

theorem en_CompareNames : Enters Try.prog 19 := ⟨_, Try.func19, by kernel_rfl, rfl⟩
theorem en_CheckName : Enters Try.prog 20 := ⟨_, Try.func20, by kernel_rfl, rfl⟩
theorem en_rCheckName : Enters Try.prog 21 := ⟨_, Try.func21, by kernel_rfl, rfl⟩
theorem en_rCompareNames : Enters Try.prog 22 := ⟨_, Try.func22, by kernel_rfl, rfl⟩
theorem en_cmpOr : Enters Try.prog 73 := ⟨_, Try.func73, by kernel_rfl, rfl⟩
theorem en_cmpCompare : Enters Try.prog 74 := ⟨_, Try.func74, by kernel_rfl, rfl⟩
theorem en_isNaN : Enters Try.prog 110 := ⟨_, Try.func110, by kernel_rfl, rfl⟩
theorem en_isNode : Enters Try.prog 75 := ⟨_, Try.func75, by kernel_rfl, rfl⟩
theorem en_rend : Enters Try.prog 67 := ⟨_, Try.func67, by kernel_rfl, rfl⟩
theorem en_rorder : Enters Try.prog 76 := ⟨_, Try.func76, by kernel_rfl, rfl⟩
theorem en_sCheck : Enters Try.prog 69 := ⟨_, Try.func69, by kernel_rfl, rfl⟩
theorem en_below : Enters Try.prog 70 := ⟨_, Try.func70, by kernel_rfl, rfl⟩
theorem en_sEmpty : Enters Try.prog 71 := ⟨_, Try.func71, by kernel_rfl, rfl⟩
theorem en_sHolds : Enters Try.prog 16 := ⟨_, Try.func16, by kernel_rfl, rfl⟩
theorem en_r2Check : Enters Try.prog 122 := ⟨_, Try.func122, by kernel_rfl, rfl⟩
theorem en_r2Holds : Enters Try.prog 130 := ⟨_, Try.func130, by kernel_rfl, rfl⟩
theorem en_iCheck : Enters Try.prog 127 := ⟨_, Try.func127, by kernel_rfl, rfl⟩
theorem en_r3Check : Enters Try.prog 129 := ⟨_, Try.func129, by kernel_rfl, rfl⟩
theorem en_CheckVersion : Enters Try.prog 132 := ⟨_, Try.func132, by kernel_rfl, rfl⟩
theorem en_r3CheckVersion : Enters Try.prog 133 := ⟨_, Try.func133, by kernel_rfl, rfl⟩
theorem en_sWhole : Enters Try.prog 101 := ⟨_, Try.func101, by kernel_rfl, rfl⟩

def cmpI (a b : Int) : Int := if a < b then -1 else if b < a then 1 else 0
def firstNZ : List Int → Int
  | [] => 0
  | x :: r => if x = 0 then firstNZ r else x

theorem isNaN_any (x : Int) (w : World) : Calls Try.prog 110 #[.int .i64 x] w fun e w' => e = .returned (.bool false) ∧ w = w' := by
  go_enter Try.func110, Try.ntmps110
  go_wp2
  go_ret
  exact ⟨rfl, rfl⟩

theorem cmpCompare_any (x y : Int) (w : World) : Calls Try.prog 74 #[.int .i64 x, .int .i64 y] w fun e w' => e = .returned (.int .i64 (cmpI x y)) ∧ w = w' := by
  unfold cmpI
  go_enter Try.func74, Try.ntmps74
  go_wp2_with (first | (go_at_call 110; refine (isNaN_any _ _).mono ?_; rintro e w' ⟨rfl, rfl⟩))
  all_goals go_ret
  all_goals (refine ⟨?_, rfl⟩; simp [*])

theorem rorder_any (x y : Int) (w : World) : Calls Try.prog 76 #[.int .i64 x, .int .i64 y] w fun e w' => e = .returned (.int .i64 (cmpI x y)) ∧ w = w' := by
  unfold cmpI
  go_enter Try.func76, Try.ntmps76
  go_wp2
  all_goals go_ret
  all_goals (refine ⟨?_, rfl⟩; simp [*])

theorem isNode_any (n : Int) (w : World) : Calls Try.prog 75 #[.int .i64 n] w fun e w' => e = .returned (.bool (decide (0 ≤ n ∧ n < 8))) ∧ w = w' := by
  go_enter Try.func75, Try.ntmps75
  go_wp2
  all_goals go_ret
  all_goals (refine ⟨?_, rfl⟩; refine ret_bool ?_; simp; try omega)

theorem rend_any (n : Int) (w : World) : Calls Try.prog 67 #[.int .i64 n] w fun e w' => e = .returned (.bool (decide (0 ≤ n ∧ n < 8))) ∧ w = w' := by
  go_enter Try.func67, Try.ntmps67
  go_wp2
  all_goals go_ret
  all_goals (refine ⟨?_, rfl⟩; refine ret_bool ?_; simp; try omega)

def checkName (a b c : Int) : Int := if 0 ≤ a ∧ a < 8 then (if 1 ≤ b ∧ b ≤ 1048576 ∧ 1 ≤ c ∧ c ≤ 1048576 then 0 else 111) else 110

theorem checkName_any (a b c : Int) (w : World) : Calls Try.prog 20 #[.agg #[.int .i64 a, .int .i64 b, .int .i64 c]] w fun e w' => e = .returned (.int .i64 (checkName a b c)) ∧ Ext w w' := by
  unfold checkName
  go_enter Try.func20, Try.ntmps20
  go_wp2_with (first | (go_at_call 75; refine (isNode_any _ _).mono ?_; rintro e w' ⟨rfl, rfl⟩))
  all_goals go_ret
  all_goals (refine ⟨?_, (Ext.refl _).alloc _⟩)
  all_goals (refine ret_int ?_; (repeat' split) <;> first | rfl | (exfalso; simp at *; omega))

theorem rCheckName_any (a b c : Int) (w : World) : Calls Try.prog 21 #[.agg #[.int .i64 a, .int .i64 b, .int .i64 c]] w fun e w' => e = .returned (.int .i64 (checkName a b c)) ∧ Ext w w' := by
  unfold checkName
  go_enter Try.func21, Try.ntmps21
  go_wp2
  all_goals go_ret
  all_goals (refine ⟨?_, (Ext.refl _).alloc _⟩)
  all_goals (refine ret_int ?_; (repeat' split) <;> first | rfl | (exfalso; simp at *; omega))

/-! ### versions and entries -/
def verCheck (c n : Int) : Int := if 1 ≤ c ∧ c ≤ 1099511627776 ∧ 0 ≤ n ∧ n < 8 then 0 else 30

theorem CheckVersion_any (c n : Int) (w : World) : Calls Try.prog 132 #[.agg #[.int .i64 c, .int .i64 n]] w fun e w' => e = .returned (.int .i64 (verCheck c n)) ∧ Ext w w' := by
  unfold verCheck
  go_enter Try.func132, Try.ntmps132
  go_wp2
  all_goals go_ret
  all_goals (refine ⟨?_, (Ext.refl _).alloc _⟩)
  all_goals (refine ret_int ?_; (repeat' split) <;> first | rfl | (exfalso; simp at *; omega))

theorem r3CheckVersion_any (c n : Int) (w : World) : Calls Try.prog 133 #[.agg #[.int .i64 c, .int .i64 n]] w fun e w' => e = .returned (.int .i64 (verCheck c n)) ∧ Ext w w' := by
  unfold verCheck
  go_enter Try.func133, Try.ntmps133
  go_wp2
  all_goals go_ret
  all_goals (refine ⟨?_, (Ext.refl _).alloc _⟩)
  all_goals (refine ret_int ?_; (repeat' split) <;> first | rfl | (exfalso; simp at *; omega))

def entCheck (k : ByteArray) (c n : Int) (v : ByteArray) (d : Bool) : Int :=
  if 16 < (k.size : Int) then 20 else if verCheck c n ≠ 0 then 30 else if 32 < (v.size : Int) then 31 else if d = true ∧ v.toList.isEmpty = false then 32 else 0

theorem iCheck_any (k : ByteArray) (c n : Int) (v : ByteArray) (d : Bool) (w : World) : Calls Try.prog 127 #[.agg #[.string k, .int .i64 c, .int .i64 n, .string v, .bool d]] w fun e w' => e = .returned (.int .i64 (entCheck k c n v d)) ∧ Ext w w' := by
  unfold entCheck
  go_enter Try.func127, Try.ntmps127
  go_wp2_with (first | (go_at_call 132; refine (CheckVersion_any _ _ _).mono ?_; rintro e w1 ⟨rfl, hx1⟩; have hc1 := hx1.hc; replace hx1 := hid_mk hx1))
  all_goals go_ret
  all_goals (refine ⟨?_, by first | exact (Ext.refl _).alloc _ | exact Ext.trans _ _ _ ((Ext.refl _).alloc _) (by assumption : Hid _).out⟩)
  all_goals (refine ret_int ?_; (repeat' split) <;> first | rfl | (exfalso; simp at *; omega) | (exfalso; simp_all; done))

theorem r3Check_any (k : ByteArray) (c n : Int) (v : ByteArray) (d : Bool) (w : World) : Calls Try.prog 129 #[.agg #[.string k, .int .i64 c, .int .i64 n, .string v, .bool d]] w fun e w' => e = .returned (.int .i64 (entCheck k c n v d)) ∧ Ext w w' := by
  unfold entCheck
  go_enter Try.func129, Try.ntmps129
  go_wp2_with (first | (go_at_call 133; refine (r3CheckVersion_any _ _ _).mono ?_; rintro e w1 ⟨rfl, hx1⟩; have hc1 := hx1.hc; replace hx1 := hid_mk hx1))
  all_goals go_ret
  all_goals (refine ⟨?_, by first | exact (Ext.refl _).alloc _ | exact Ext.trans _ _ _ ((Ext.refl _).alloc _) (by assumption : Hid _).out⟩)
  all_goals (refine ret_int ?_; (repeat' split) <;> first | rfl | (exfalso; simp at *; omega) | (exfalso; simp_all; done))

/-! ### ranges -/
def rngCheck (lo hi : ByteArray) (op : Bool) : Int :=
  if 16 < (lo.size : Int) ∨ 16 < (hi.size : Int) then 20 else if (op = true ∧ hi.toList.isEmpty = false) ∨ (op = false ∧ (Op.bytesLess lo.toList hi.toList = false ∧ (lo.toList == hi.toList) = false)) then 21 else 0

theorem sCheck_any (lo hi : ByteArray) (op : Bool) (w : World) : Calls Try.prog 69 #[.agg #[.string lo, .string hi, .bool op]] w fun e w' => e = .returned (.int .i64 (rngCheck lo hi op)) ∧ Ext w w' := by
  unfold rngCheck
  go_enter Try.func69, Try.ntmps69
  go_wp2
  all_goals go_ret
  all_goals (refine ⟨?_, (Ext.refl _).alloc _⟩)
  all_goals (refine ret_int ?_; (repeat' split) <;> first | rfl | (exfalso; simp at *; omega) | (exfalso; simp_all; done) | (exfalso; simp_all; omega))

theorem r2Check_any (lo hi : ByteArray) (op : Bool) (w : World) : Calls Try.prog 122 #[.agg #[.string lo, .string hi, .bool op]] w fun e w' => e = .returned (.int .i64 (rngCheck lo hi op)) ∧ Ext w w' := by
  unfold rngCheck
  go_enter Try.func122, Try.ntmps122
  go_wp2
  all_goals go_ret
  all_goals (refine ⟨?_, (Ext.refl _).alloc _⟩)
  all_goals (refine ret_int ?_; (repeat' split) <;> first | rfl | (exfalso; simp at *; omega) | (exfalso; simp_all; done) | (exfalso; simp_all; omega))

def rngEmpty (lo hi : ByteArray) (op : Bool) : Bool := rngCheck lo hi op != 0 || (!op && lo.toList == hi.toList)
def rngHolds (lo hi : ByteArray) (op : Bool) (key : ByteArray) : Bool :=
  rngCheck lo hi op == 0 && (decide ((key.size : Int) ≤ 16) && (!Op.bytesLess key.toList lo.toList && (op || Op.bytesLess key.toList hi.toList)))

end Go.Proofs.Ytgglbohcnlcagaa
