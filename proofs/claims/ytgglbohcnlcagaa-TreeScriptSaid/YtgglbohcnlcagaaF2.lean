/- Ranges: which keys one holds. -/
import Derived.Test.YtgglbohcnlcagaaF1
namespace Go.Proofs.Ytgglbohcnlcagaa
open Go.RowKit
set_option maxHeartbeats 1000000
set_option linter.unusedSimpArgs false
set_option linter.unusedVariables false

theorem below_any (key lo hi : ByteArray) (op : Bool) (w : World) : Calls Try.prog 70 #[.string key, .agg #[.string lo, .string hi, .bool op]] w fun e w' => e = .returned (.bool (op || Op.bytesLess key.toList hi.toList)) ∧ Ext w w' := by
  go_enter Try.func70, Try.ntmps70
  go_wp2
  all_goals go_ret
  all_goals (refine ⟨?_, (Ext.refl _).alloc _⟩)
  all_goals (refine ret_bool ?_; simp [*])

theorem sWhole_any (w : World) : Calls Try.prog 101 #[] w fun e w' => e = .returned (.agg #[.string ⟨#[]⟩, .string ⟨#[]⟩, .bool true]) ∧ Ext w w' := by
  go_enter Try.func101, Try.ntmps101
  go_wp2
  exact bodyPost_ret (v := .agg #[.string ⟨#[]⟩, .string ⟨#[]⟩, .bool true]) (by simp [results, Try.results101, go_sem]) rfl ⟨rfl, (Ext.refl _).alloc _⟩

theorem sEmpty_any (lo hi : ByteArray) (op : Bool) (w : World) : Calls Try.prog 71 #[.agg #[.string lo, .string hi, .bool op]] w fun e w' => e = .returned (.bool (rngEmpty lo hi op)) ∧ Ext w w' := by
  go_enter Try.func71, Try.ntmps71
  go_wp2_with (first | (go_at_call 69; refine (sCheck_any _ _ _ _).mono ?_; rintro e w1 ⟨rfl, hx1⟩; have hc1 := hx1.hc; replace hx1 := hid_mk hx1))
  all_goals go_ret
  all_goals (refine ⟨?_, by first | exact (Ext.refl _).alloc _ | exact Ext.trans _ _ _ ((Ext.refl _).alloc _) (by assumption : Hid _).out⟩)
  all_goals (refine ret_bool ?_; simp only [rngEmpty]; simp_all)

theorem sHolds_any (lo hi : ByteArray) (op : Bool) (key : ByteArray) (w : World) : Calls Try.prog 16 #[.agg #[.string lo, .string hi, .bool op], .string key] w fun e w' => e = .returned (.bool (rngHolds lo hi op key)) ∧ Ext w w' := by
  go_enter Try.func16, Try.ntmps16
  go_wp2_with (first | (go_at_call 69; refine (sCheck_any _ _ _ _).mono ?_; rintro e w1 ⟨rfl, hx1⟩; have hc1 := hx1.hc; replace hx1 := hid_mk hx1) | (go_at_call 70; refine (below_any _ _ _ _ _).mono ?_; rintro e w2 ⟨rfl, hx2⟩; replace hx2 := hid_mk hx2))
  all_goals go_ret
  all_goals (refine ⟨?_, by first | exact (Ext.refl _).alloc _ | exact Ext.trans _ _ _ (Ext.trans _ _ _ ((Ext.refl _).alloc _) hx1.out) hx2.out | exact Ext.trans _ _ _ ((Ext.refl _).alloc _) (by assumption : Hid _).out⟩)
  all_goals (refine ret_bool ?_; simp only [rngHolds, bl_tri]; (try simp only [bl_triP, bl_triN] at *); first | (simp_all; done) | (simp_all; intro h; omega))

theorem r2Holds_any (lo hi : ByteArray) (op : Bool) (key : ByteArray) (w : World) : Calls Try.prog 130 #[.agg #[.string lo, .string hi, .bool op], .string key] w fun e w' => e = .returned (.bool (rngHolds lo hi op key)) ∧ Ext w w' := by
  go_enter Try.func130, Try.ntmps130
  go_wp2_with (first | (go_at_call 122; refine (r2Check_any _ _ _ _).mono ?_; rintro e w1 ⟨rfl, hx1⟩; have hc1 := hx1.hc; replace hx1 := hid_mk hx1))
  all_goals go_ret
  all_goals (refine ⟨?_, by first | exact (Ext.refl _).alloc _ | exact Ext.trans _ _ _ ((Ext.refl _).alloc _) (by assumption : Hid _).out⟩)
  all_goals (refine ret_bool ?_; simp only [rngHolds, bl_tri]; (try simp only [bl_triP, bl_triN] at *); first | (simp_all; done) | (simp_all; intro h; omega))
end Go.Proofs.Ytgglbohcnlcagaa
