/- Ranges: which keys one holds. -/
import Derived.Test.YtiimoaplhhnklaaDoorF1
namespace Go.Proofs.YtiimoaplhhnklaaDoor
open Go.RowKit
set_option maxHeartbeats 1000000
set_option linter.unusedSimpArgs false
set_option linter.unusedVariables false

theorem below_any (key lo hi : ByteArray) (op : Bool) (w : World) : Calls Tryd.prog 46 #[.string key, .agg #[.string lo, .string hi, .bool op]] w fun e w' => e = .returned (.bool (op || Op.bytesLess key.toList hi.toList)) ∧ Ext w w' := by
  go_enter Tryd.func46, Tryd.ntmps46
  go_wp2
  all_goals go_ret
  all_goals (refine ⟨?_, (Ext.refl _).alloc _⟩)
  all_goals (refine ret_bool ?_; simp [*])

theorem sHolds_any (lo hi : ByteArray) (op : Bool) (key : ByteArray) (w : World) : Calls Tryd.prog 26 #[.agg #[.string lo, .string hi, .bool op], .string key] w fun e w' => e = .returned (.bool (rngHolds lo hi op key)) ∧ Ext w w' := by
  go_enter Tryd.func26, Tryd.ntmps26
  go_wp2_with (first | (go_at_call 25; refine (sCheck_any _ _ _ _).mono ?_; rintro e w1 ⟨rfl, hx1⟩; have hc1 := hx1.hc; replace hx1 := hid_mk hx1) | (go_at_call 46; refine (below_any _ _ _ _ _).mono ?_; rintro e w2 ⟨rfl, hx2⟩; replace hx2 := hid_mk hx2))
  all_goals go_ret
  all_goals (refine ⟨?_, by first | exact (Ext.refl _).alloc _ | exact Ext.trans _ _ _ (Ext.trans _ _ _ ((Ext.refl _).alloc _) hx1.out) hx2.out | exact Ext.trans _ _ _ ((Ext.refl _).alloc _) (by assumption : Hid _).out⟩)
  all_goals (refine ret_bool ?_; simp only [rngHolds, bl_tri]; (try simp only [bl_triP, bl_triN] at *); first | (simp_all; done) | (simp_all; intro h; omega))

theorem r2Holds_any (lo hi : ByteArray) (op : Bool) (key : ByteArray) (w : World) : Calls Tryd.prog 59 #[.agg #[.string lo, .string hi, .bool op], .string key] w fun e w' => e = .returned (.bool (rngHolds lo hi op key)) ∧ Ext w w' := by
  go_enter Tryd.func59, Tryd.ntmps59
  go_wp2_with (first | (go_at_call 57; refine (r2Check_any _ _ _ _).mono ?_; rintro e w1 ⟨rfl, hx1⟩; have hc1 := hx1.hc; replace hx1 := hid_mk hx1))
  all_goals go_ret
  all_goals (refine ⟨?_, by first | exact (Ext.refl _).alloc _ | exact Ext.trans _ _ _ ((Ext.refl _).alloc _) (by assumption : Hid _).out⟩)
  all_goals (refine ret_bool ?_; simp only [rngHolds, bl_tri]; (try simp only [bl_triP, bl_triN] at *); first | (simp_all; done) | (simp_all; intro h; omega))
end Go.Proofs.YtiimoaplhhnklaaDoor
