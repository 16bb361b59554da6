/- What the small functions on names, versions, ranges and entries compute. Ranges: which keys one holds. -/
import Derived.Test.YtokcgnbjkbhmiaaDoorProg
import Derived.WalkKit
import Derived.KernelRfl
import Derived.Outline
import Derived.WalkLawsBesides
import Derived.WalkSpells
import Derived.Test.YtokcgnbjkbhmiaaDoorReg
import Derived.Test.YtokcgnbjkbhmiaaDoorStr
namespace Go.Proofs.YtokcgnbjkbhmiaaDoor
open Go.RowKit
set_option maxHeartbeats 1000000
set_option linter.unusedSimpArgs false
set_option linter.unusedVariables false

theorem en_cmpOr : Enters Tryd.prog 132 := ⟨_, Tryd.func132, by kernel_rfl, rfl⟩
theorem en_cmpCompare : Enters Tryd.prog 133 := ⟨_, Tryd.func133, by kernel_rfl, rfl⟩
theorem en_isNaN : Enters Tryd.prog 147 := ⟨_, Tryd.func147, by kernel_rfl, rfl⟩
theorem en_sCheck : Enters Tryd.prog 49 := ⟨_, Tryd.func49, by kernel_rfl, rfl⟩
theorem en_below : Enters Tryd.prog 126 := ⟨_, Tryd.func126, by kernel_rfl, rfl⟩
theorem en_sEmpty : Enters Tryd.prog 57 := ⟨_, Tryd.func57, by kernel_rfl, rfl⟩
theorem en_sHolds : Enters Tryd.prog 93 := ⟨_, Tryd.func93, by kernel_rfl, rfl⟩
theorem en_r2Check : Enters Tryd.prog 58 := ⟨_, Tryd.func58, by kernel_rfl, rfl⟩
theorem en_r2Holds : Enters Tryd.prog 86 := ⟨_, Tryd.func86, by kernel_rfl, rfl⟩
theorem en_iCheck : Enters Tryd.prog 61 := ⟨_, Tryd.func61, by kernel_rfl, rfl⟩
theorem en_r3Check : Enters Tryd.prog 101 := ⟨_, Tryd.func101, by kernel_rfl, rfl⟩
theorem en_CheckVersion : Enters Tryd.prog 104 := ⟨_, Tryd.func104, by kernel_rfl, rfl⟩
theorem en_r3CheckVersion : Enters Tryd.prog 129 := ⟨_, Tryd.func129, by kernel_rfl, rfl⟩
theorem en_sWhole : Enters Tryd.prog 30 := ⟨_, Tryd.func30, by kernel_rfl, rfl⟩
def cmpI (a b : Int) : Int := if a < b then -1 else if b < a then 1 else 0
def firstNZ : List Int → Int
  | [] => 0
  | x :: r => if x = 0 then firstNZ r else x

theorem isNaN_any (x : Int) (w : World) : Calls Tryd.prog 147 #[.int .i64 x] w fun e w' => e = .returned (.bool false) ∧ w = w' := by
  go_enter Tryd.func147, Tryd.ntmps147
  go_wp2
  go_ret
  exact ⟨rfl, rfl⟩

theorem cmpCompare_any (x y : Int) (w : World) : Calls Tryd.prog 133 #[.int .i64 x, .int .i64 y] w fun e w' => e = .returned (.int .i64 (cmpI x y)) ∧ w = w' := by
  unfold cmpI
  go_enter Tryd.func133, Tryd.ntmps133
  go_wp2_with (first | (go_at_call 147; refine (isNaN_any _ _).mono ?_; rintro e w' ⟨rfl, rfl⟩))
  all_goals go_ret
  all_goals (refine ⟨?_, rfl⟩; simp [*])

def checkName (a b c : Int) : Int := if 0 ≤ a ∧ a < 8 then (if 1 ≤ b ∧ b ≤ 1048576 ∧ 1 ≤ c ∧ c ≤ 1048576 then 0 else 111) else 110

/-! ### versions and entries -/
def verCheck (c n : Int) : Int := if 1 ≤ c ∧ c ≤ 1099511627776 ∧ 0 ≤ n ∧ n < 8 then 0 else 30

theorem CheckVersion_any (c n : Int) (w : World) : Calls Tryd.prog 104 #[.agg #[.int .i64 c, .int .i64 n]] w fun e w' => e = .returned (.int .i64 (verCheck c n)) ∧ Ext w w' := by
  unfold verCheck
  go_enter Tryd.func104, Tryd.ntmps104
  go_wp2
  all_goals go_ret
  all_goals (refine ⟨?_, (Ext.refl _).alloc _⟩)
  all_goals (refine ret_int ?_; (repeat' split) <;> first | rfl | (exfalso; simp at *; omega))

theorem r3CheckVersion_any (c n : Int) (w : World) : Calls Tryd.prog 129 #[.agg #[.int .i64 c, .int .i64 n]] w fun e w' => e = .returned (.int .i64 (verCheck c n)) ∧ Ext w w' := by
  unfold verCheck
  go_enter Tryd.func129, Tryd.ntmps129
  go_wp2
  all_goals go_ret
  all_goals (refine ⟨?_, (Ext.refl _).alloc _⟩)
  all_goals (refine ret_int ?_; (repeat' split) <;> first | rfl | (exfalso; simp at *; omega))

def entCheck (k : ByteArray) (c n : Int) (v : ByteArray) (d : Bool) : Int :=
  if 16 < (k.size : Int) then 20 else if verCheck c n ≠ 0 then 30 else if 32 < (v.size : Int) then 31 else if d = true ∧ v.toList.isEmpty = false then 32 else 0

theorem iCheck_any (k : ByteArray) (c n : Int) (v : ByteArray) (d : Bool) (w : World) : Calls Tryd.prog 61 #[.agg #[.string k, .int .i64 c, .int .i64 n, .string v, .bool d]] w fun e w' => e = .returned (.int .i64 (entCheck k c n v d)) ∧ Ext w w' := by
  unfold entCheck
  go_enter Tryd.func61, Tryd.ntmps61
  go_wp2_with (first | (go_at_call 104; refine (CheckVersion_any _ _ _).mono ?_; rintro e w1 ⟨rfl, hx1⟩; have hc1 := hx1.hc; replace hx1 := hid_mk hx1))
  all_goals go_ret
  all_goals (refine ⟨?_, by first | exact (Ext.refl _).alloc _ | exact Ext.trans _ _ _ ((Ext.refl _).alloc _) (by assumption : Hid _).out⟩)
  all_goals (refine ret_int ?_; (repeat' split) <;> first | rfl | (exfalso; simp at *; omega) | (exfalso; simp_all; done))

theorem r3Check_any (k : ByteArray) (c n : Int) (v : ByteArray) (d : Bool) (w : World) : Calls Tryd.prog 101 #[.agg #[.string k, .int .i64 c, .int .i64 n, .string v, .bool d]] w fun e w' => e = .returned (.int .i64 (entCheck k c n v d)) ∧ Ext w w' := by
  unfold entCheck
  go_enter Tryd.func101, Tryd.ntmps101
  go_wp2_with (first | (go_at_call 129; refine (r3CheckVersion_any _ _ _).mono ?_; rintro e w1 ⟨rfl, hx1⟩; have hc1 := hx1.hc; replace hx1 := hid_mk hx1))
  all_goals go_ret
  all_goals (refine ⟨?_, by first | exact (Ext.refl _).alloc _ | exact Ext.trans _ _ _ ((Ext.refl _).alloc _) (by assumption : Hid _).out⟩)
  all_goals (refine ret_int ?_; (repeat' split) <;> first | rfl | (exfalso; simp at *; omega) | (exfalso; simp_all; done))

/-! ### ranges -/
def rngCheck (lo hi : ByteArray) (op : Bool) : Int :=
  if 16 < (lo.size : Int) ∨ 16 < (hi.size : Int) then 20 else if (op = true ∧ hi.toList.isEmpty = false) ∨ (op = false ∧ (Op.bytesLess lo.toList hi.toList = false ∧ (lo.toList == hi.toList) = false)) then 21 else 0

theorem sCheck_any (lo hi : ByteArray) (op : Bool) (w : World) : Calls Tryd.prog 49 #[.agg #[.string lo, .string hi, .bool op]] w fun e w' => e = .returned (.int .i64 (rngCheck lo hi op)) ∧ Ext w w' := by
  unfold rngCheck
  go_enter Tryd.func49, Tryd.ntmps49
  go_wp2
  all_goals go_ret
  all_goals (refine ⟨?_, (Ext.refl _).alloc _⟩)
  all_goals (refine ret_int ?_; (repeat' split) <;> first | rfl | (exfalso; simp at *; omega) | (exfalso; simp_all; done) | (exfalso; simp_all; omega))

theorem r2Check_any (lo hi : ByteArray) (op : Bool) (w : World) : Calls Tryd.prog 58 #[.agg #[.string lo, .string hi, .bool op]] w fun e w' => e = .returned (.int .i64 (rngCheck lo hi op)) ∧ Ext w w' := by
  unfold rngCheck
  go_enter Tryd.func58, Tryd.ntmps58
  go_wp2
  all_goals go_ret
  all_goals (refine ⟨?_, (Ext.refl _).alloc _⟩)
  all_goals (refine ret_int ?_; (repeat' split) <;> first | rfl | (exfalso; simp at *; omega) | (exfalso; simp_all; done) | (exfalso; simp_all; omega))

def rngEmpty (lo hi : ByteArray) (op : Bool) : Bool := rngCheck lo hi op != 0 || (!op && lo.toList == hi.toList)
def rngHolds (lo hi : ByteArray) (op : Bool) (key : ByteArray) : Bool :=
  rngCheck lo hi op == 0 && (decide ((key.size : Int) ≤ 16) && (!Op.bytesLess key.toList lo.toList && (op || Op.bytesLess key.toList hi.toList)))

end Go.Proofs.YtokcgnbjkbhmiaaDoor
namespace Go.Proofs.YtokcgnbjkbhmiaaDoor
open Go.RowKit
set_option maxHeartbeats 1000000
set_option linter.unusedSimpArgs false
set_option linter.unusedVariables false

theorem below_any (key lo hi : ByteArray) (op : Bool) (w : World) : Calls Tryd.prog 126 #[.string key, .agg #[.string lo, .string hi, .bool op]] w fun e w' => e = .returned (.bool (op || Op.bytesLess key.toList hi.toList)) ∧ Ext w w' := by
  go_enter Tryd.func126, Tryd.ntmps126
  go_wp2
  all_goals go_ret
  all_goals (refine ⟨?_, (Ext.refl _).alloc _⟩)
  all_goals (refine ret_bool ?_; simp [*])

theorem sWhole_any (w : World) : Calls Tryd.prog 30 #[] w fun e w' => e = .returned (.agg #[.string ⟨#[]⟩, .string ⟨#[]⟩, .bool true]) ∧ Ext w w' := by
  go_enter Tryd.func30, Tryd.ntmps30
  go_wp2
  exact bodyPost_ret (v := .agg #[.string ⟨#[]⟩, .string ⟨#[]⟩, .bool true]) (by simp [results, Tryd.results30, go_sem]) rfl ⟨rfl, (Ext.refl _).alloc _⟩

theorem sEmpty_any (lo hi : ByteArray) (op : Bool) (w : World) : Calls Tryd.prog 57 #[.agg #[.string lo, .string hi, .bool op]] w fun e w' => e = .returned (.bool (rngEmpty lo hi op)) ∧ Ext w w' := by
  go_enter Tryd.func57, Tryd.ntmps57
  go_wp2_with (first | (go_at_call 49; refine (sCheck_any _ _ _ _).mono ?_; rintro e w1 ⟨rfl, hx1⟩; have hc1 := hx1.hc; replace hx1 := hid_mk hx1))
  all_goals go_ret
  all_goals (refine ⟨?_, by first | exact (Ext.refl _).alloc _ | exact Ext.trans _ _ _ ((Ext.refl _).alloc _) (by assumption : Hid _).out⟩)
  all_goals (refine ret_bool ?_; simp only [rngEmpty]; simp_all)

theorem sHolds_any (lo hi : ByteArray) (op : Bool) (key : ByteArray) (w : World) : Calls Tryd.prog 93 #[.agg #[.string lo, .string hi, .bool op], .string key] w fun e w' => e = .returned (.bool (rngHolds lo hi op key)) ∧ Ext w w' := by
  go_enter Tryd.func93, Tryd.ntmps93
  go_wp2_with (first | (go_at_call 49; refine (sCheck_any _ _ _ _).mono ?_; rintro e w1 ⟨rfl, hx1⟩; have hc1 := hx1.hc; replace hx1 := hid_mk hx1) | (go_at_call 126; refine (below_any _ _ _ _ _).mono ?_; rintro e w2 ⟨rfl, hx2⟩; replace hx2 := hid_mk hx2))
  all_goals go_ret
  all_goals (refine ⟨?_, by first | exact (Ext.refl _).alloc _ | exact Ext.trans _ _ _ (Ext.trans _ _ _ ((Ext.refl _).alloc _) hx1.out) hx2.out | exact Ext.trans _ _ _ ((Ext.refl _).alloc _) (by assumption : Hid _).out⟩)
  all_goals (refine ret_bool ?_; simp only [rngHolds, bl_tri]; (try simp only [bl_triP, bl_triN] at *); first | (simp_all; done) | (simp_all; intro h; omega))

theorem r2Holds_any (lo hi : ByteArray) (op : Bool) (key : ByteArray) (w : World) : Calls Tryd.prog 86 #[.agg #[.string lo, .string hi, .bool op], .string key] w fun e w' => e = .returned (.bool (rngHolds lo hi op key)) ∧ Ext w w' := by
  go_enter Tryd.func86, Tryd.ntmps86
  go_wp2_with (first | (go_at_call 58; refine (r2Check_any _ _ _ _).mono ?_; rintro e w1 ⟨rfl, hx1⟩; have hc1 := hx1.hc; replace hx1 := hid_mk hx1))
  all_goals go_ret
  all_goals (refine ⟨?_, by first | exact (Ext.refl _).alloc _ | exact Ext.trans _ _ _ ((Ext.refl _).alloc _) (by assumption : Hid _).out⟩)
  all_goals (refine ret_bool ?_; simp only [rngHolds, bl_tri]; (try simp only [bl_triP, bl_triN] at *); first | (simp_all; done) | (simp_all; intro h; omega))
end Go.Proofs.YtokcgnbjkbhmiaaDoor
