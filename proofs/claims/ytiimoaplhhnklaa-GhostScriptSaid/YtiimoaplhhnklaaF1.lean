/- What the small functions on names, versions, ranges and entries compute. -/
import Derived.Test.YtiimoaplhhnklaaProg
import Derived.WalkKit
import Derived.KernelRfl
import Derived.Outline
import Derived.WalkLawsBesides
import Derived.WalkSpells
import Derived.Test.YtiimoaplhhnklaaReg
import Derived.Test.YtiimoaplhhnklaaStr
namespace Go.Proofs.Ytiimoaplhhnklaa
open Go.RowKit
set_option maxHeartbeats 1000000
set_option linter.unusedSimpArgs false
set_option linter.unusedVariables false

theorem en_rCompareNames : Enters Try.prog 77 := ⟨_, Try.func77, by kernel_rfl, rfl⟩
theorem en_cmpOr : Enters Try.prog 66 := ⟨_, Try.func66, by kernel_rfl, rfl⟩
theorem en_cmpCompare : Enters Try.prog 67 := ⟨_, Try.func67, by kernel_rfl, rfl⟩
theorem en_isNaN : Enters Try.prog 75 := ⟨_, Try.func75, by kernel_rfl, rfl⟩
theorem en_rorder : Enters Try.prog 79 := ⟨_, Try.func79, by kernel_rfl, rfl⟩
theorem en_iCheck : Enters Try.prog 41 := ⟨_, Try.func41, by kernel_rfl, rfl⟩
theorem en_r3Check : Enters Try.prog 59 := ⟨_, Try.func59, by kernel_rfl, rfl⟩
theorem en_CheckVersion : Enters Try.prog 63 := ⟨_, Try.func63, by kernel_rfl, rfl⟩
theorem en_r3CheckVersion : Enters Try.prog 72 := ⟨_, Try.func72, by kernel_rfl, rfl⟩
def cmpI (a b : Int) : Int := if a < b then -1 else if b < a then 1 else 0
def firstNZ : List Int → Int
  | [] => 0
  | x :: r => if x = 0 then firstNZ r else x

theorem isNaN_any (x : Int) (w : World) : Calls Try.prog 75 #[.int .i64 x] w fun e w' => e = .returned (.bool false) ∧ w = w' := by
  go_enter Try.func75, Try.ntmps75
  go_wp2
  go_ret
  exact ⟨rfl, rfl⟩

theorem cmpCompare_any (x y : Int) (w : World) : Calls Try.prog 67 #[.int .i64 x, .int .i64 y] w fun e w' => e = .returned (.int .i64 (cmpI x y)) ∧ w = w' := by
  unfold cmpI
  go_enter Try.func67, Try.ntmps67
  go_wp2_with (first | (go_at_call 75; refine (isNaN_any _ _).mono ?_; rintro e w' ⟨rfl, rfl⟩))
  all_goals go_ret
  all_goals (refine ⟨?_, rfl⟩; simp [*])

theorem rorder_any (x y : Int) (w : World) : Calls Try.prog 79 #[.int .i64 x, .int .i64 y] w fun e w' => e = .returned (.int .i64 (cmpI x y)) ∧ w = w' := by
  unfold cmpI
  go_enter Try.func79, Try.ntmps79
  go_wp2
  all_goals go_ret
  all_goals (refine ⟨?_, rfl⟩; simp [*])

def checkName (a b c : Int) : Int := if 0 ≤ a ∧ a < 8 then (if 1 ≤ b ∧ b ≤ 1048576 ∧ 1 ≤ c ∧ c ≤ 1048576 then 0 else 111) else 110

/-! ### versions and entries -/
def verCheck (c n : Int) : Int := if 1 ≤ c ∧ c ≤ 1099511627776 ∧ 0 ≤ n ∧ n < 8 then 0 else 30

theorem CheckVersion_any (c n : Int) (w : World) : Calls Try.prog 63 #[.agg #[.int .i64 c, .int .i64 n]] w fun e w' => e = .returned (.int .i64 (verCheck c n)) ∧ Ext w w' := by
  unfold verCheck
  go_enter Try.func63, Try.ntmps63
  go_wp2
  all_goals go_ret
  all_goals (refine ⟨?_, (Ext.refl _).alloc _⟩)
  all_goals (refine ret_int ?_; (repeat' split) <;> first | rfl | (exfalso; simp at *; omega))

theorem r3CheckVersion_any (c n : Int) (w : World) : Calls Try.prog 72 #[.agg #[.int .i64 c, .int .i64 n]] w fun e w' => e = .returned (.int .i64 (verCheck c n)) ∧ Ext w w' := by
  unfold verCheck
  go_enter Try.func72, Try.ntmps72
  go_wp2
  all_goals go_ret
  all_goals (refine ⟨?_, (Ext.refl _).alloc _⟩)
  all_goals (refine ret_int ?_; (repeat' split) <;> first | rfl | (exfalso; simp at *; omega))

def entCheck (k : ByteArray) (c n : Int) (v : ByteArray) (d : Bool) : Int :=
  if 16 < (k.size : Int) then 20 else if verCheck c n ≠ 0 then 30 else if 32 < (v.size : Int) then 31 else if d = true ∧ v.toList.isEmpty = false then 32 else 0

theorem iCheck_any (k : ByteArray) (c n : Int) (v : ByteArray) (d : Bool) (w : World) : Calls Try.prog 41 #[.agg #[.string k, .int .i64 c, .int .i64 n, .string v, .bool d]] w fun e w' => e = .returned (.int .i64 (entCheck k c n v d)) ∧ Ext w w' := by
  unfold entCheck
  go_enter Try.func41, Try.ntmps41
  go_wp2_with (first | (go_at_call 63; refine (CheckVersion_any _ _ _).mono ?_; rintro e w1 ⟨rfl, hx1⟩; have hc1 := hx1.hc; replace hx1 := hid_mk hx1))
  all_goals go_ret
  all_goals (refine ⟨?_, by first | exact (Ext.refl _).alloc _ | exact Ext.trans _ _ _ ((Ext.refl _).alloc _) (by assumption : Hid _).out⟩)
  all_goals (refine ret_int ?_; (repeat' split) <;> first | rfl | (exfalso; simp at *; omega) | (exfalso; simp_all; done))

theorem r3Check_any (k : ByteArray) (c n : Int) (v : ByteArray) (d : Bool) (w : World) : Calls Try.prog 59 #[.agg #[.string k, .int .i64 c, .int .i64 n, .string v, .bool d]] w fun e w' => e = .returned (.int .i64 (entCheck k c n v d)) ∧ Ext w w' := by
  unfold entCheck
  go_enter Try.func59, Try.ntmps59
  go_wp2_with (first | (go_at_call 72; refine (r3CheckVersion_any _ _ _).mono ?_; rintro e w1 ⟨rfl, hx1⟩; have hc1 := hx1.hc; replace hx1 := hid_mk hx1))
  all_goals go_ret
  all_goals (refine ⟨?_, by first | exact (Ext.refl _).alloc _ | exact Ext.trans _ _ _ ((Ext.refl _).alloc _) (by assumption : Hid _).out⟩)
  all_goals (refine ret_int ?_; (repeat' split) <;> first | rfl | (exfalso; simp at *; omega) | (exfalso; simp_all; done))

/-! ### ranges -/
def rngCheck (lo hi : ByteArray) (op : Bool) : Int :=
  if 16 < (lo.size : Int) ∨ 16 < (hi.size : Int) then 20 else if (op = true ∧ hi.toList.isEmpty = false) ∨ (op = false ∧ (Op.bytesLess lo.toList hi.toList = false ∧ (lo.toList == hi.toList) = false)) then 21 else 0

def rngEmpty (lo hi : ByteArray) (op : Bool) : Bool := rngCheck lo hi op != 0 || (!op && lo.toList == hi.toList)
def rngHolds (lo hi : ByteArray) (op : Bool) (key : ByteArray) : Bool :=
  rngCheck lo hi op == 0 && (decide ((key.size : Int) ≤ 16) && (!Op.bytesLess key.toList lo.toList && (op || Op.bytesLess key.toList hi.toList)))

end Go.Proofs.Ytiimoaplhhnklaa
