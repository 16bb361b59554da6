/- What the functions that join two summaries answer. -/
import Derived.Test.YtgglbohcnlcagaaTX
namespace Go.Proofs.Ytgglbohcnlcagaa
open Go.RowKit
set_option maxHeartbeats 2000000
set_option maxRecDepth 100000
set_option linter.unusedSimpArgs false
set_option linter.unusedVariables false
theorem en_RJoin : Enters Try.prog 37 := ⟨_, Try.func37, by kernel_rfl, rfl⟩
theorem en_TshownC : Enters Try.prog 83 := ⟨_, Try.func83, by kernel_rfl, rfl⟩
theorem en_TtextsC : Enters Try.prog 44 := ⟨_, Try.func44, by kernel_rfl, rfl⟩
theorem en_RZero : Enters Try.prog 39 := ⟨_, Try.func39, by kernel_rfl, rfl⟩

/-- One Map behind the other. -/
def jm (a b : Int × Int) : Int × Int := (IntKind.u64.wrap (a.1 * b.1), IntKind.u64.wrap (IntKind.u64.wrap (b.1 * a.2) + b.2))
theorem wu (n : Int) : IntKind.u64.wrap n = n % 18446744073709551616 := by simp [IntKind.wrap, IntKind.bits, IntKind.signed]
theorem jm_assoc (a b c : Int × Int) : jm (jm a b) c = jm a (jm b c) := by
  obtain ⟨a1, a2⟩ := a
  obtain ⟨b1, b2⟩ := b
  obtain ⟨c1, c2⟩ := c
  have ml : ∀ x y : Int, (x % 18446744073709551616 * y) % 18446744073709551616 = (x * y) % 18446744073709551616 := fun x y => by
    rw [Int.mul_emod, Int.emod_emod_of_dvd _ (Int.dvd_refl _), ← Int.mul_emod]
  have mr : ∀ x y : Int, (x * (y % 18446744073709551616)) % 18446744073709551616 = (x * y) % 18446744073709551616 := fun x y => by
    rw [Int.mul_emod, Int.emod_emod_of_dvd _ (Int.dvd_refl _), ← Int.mul_emod]
  simp only [jm, wu, Prod.mk.injEq, ml, mr, Int.emod_add_emod, Int.add_emod_emod]
  constructor
  · rw [Int.mul_assoc]
  · congr 1
    rw [Int.mul_add, Int.add_assoc, ← Int.mul_assoc, Int.mul_comm c1 b1]
theorem rjoin_any (a b : Int × Int) (w : World) :
    Calls Try.prog 37 #[.agg #[.int .u64 a.1, .int .u64 a.2], .agg #[.int .u64 b.1, .int .u64 b.2]] w fun e w' => e = .returned (.agg #[.int .u64 (jm a b).1, .int .u64 (jm a b).2]) ∧ Ext w w' := by
  unfold jm
  go_enter Try.func37, Try.ntmps37
  go_wp2
  refine bodyPost_ret (v := .agg #[.int .u64 (IntKind.u64.wrap (a.1 * b.1)), .int .u64 (IntKind.u64.wrap (IntKind.u64.wrap (b.1 * a.2) + b.2))]) (by unfold results; rw [Try.results37]; go_simp) rfl ⟨rfl, by (repeat (first | exact Ext.refl _ | apply Ext.drew_left | apply Ext.drew | apply Ext.alloc | (refine Ext.setX ?_ (by simp))))⟩
theorem rzero_any (w : World) :
    Calls Try.prog 39 #[] w fun e w' => e = .returned (.agg #[.int .u64 1, .int .u64 0]) ∧ Ext w w' := by
  go_enter Try.func39, Try.ntmps39
  go_wp2
  refine bodyPost_ret (v := .agg #[.int .u64 1, .int .u64 0]) (by unfold results; rw [Try.results39]; go_simp) rfl ⟨rfl, by (repeat (first | exact Ext.refl _ | apply Ext.drew_left | apply Ext.drew | apply Ext.alloc | (refine Ext.setX ?_ (by simp))))⟩
theorem tshown_any (a b : ByteArray) (w : World) (h : a.size + b.size ≤ 9223372036854775807) :
    Calls Try.prog 83 #[.string a, .string b] w fun e w' => e = .returned (.string (a ++ b)) ∧ w = w' := by
  have h' : ¬ ((a.size + b.size : Nat) : Int) > IntKind.i64.max := by have : IntKind.i64.max = 9223372036854775807 := rfl; omega
  go_enter Try.func83, Try.ntmps83
  go_wp2
  go_ret
  exact ⟨rfl, rfl⟩
theorem ttexts_any (a b : ByteArray) (w : World) (h : a.size + b.size ≤ 9223372036854775807) :
    Calls Try.prog 44 #[.string a, .string b] w fun e w' => e = .returned (.string (a ++ b)) ∧ w = w' := by
  have h' : ¬ ((a.size + b.size : Nat) : Int) > IntKind.i64.max := by have : IntKind.i64.max = 9223372036854775807 := rfl; omega
  go_enter Try.func44, Try.ntmps44
  go_wp2
  go_ret
  exact ⟨rfl, rfl⟩
theorem jokM : JoinOK Try.prog (fun s : Int × Int => .agg #[.int .u64 s.1, .int .u64 s.2]) none (fun _ _ => True) (fun _ => 0) 0 jm 37 #[] where
  enters := en_RJoin
  call a b w n _ _ := (rjoin_any a b w).mono fun e w' h => ⟨h.1, Xt.of h.2, trivial⟩
  low _ _ _ s h := by cases h
  keep _ _ _ _ _ := trivial
  wtJ _ _ := Nat.le_refl _
theorem jokS {f : FuncId} (he : Enters Try.prog f) (hc : ∀ (a b : ByteArray) (w : World), a.size + b.size ≤ 9223372036854775807 → Calls Try.prog f #[.string a, .string b] w fun e w' => e = .returned (.string (a ++ b)) ∧ w = w') :
    JoinOK Try.prog (fun s : ByteArray => .string s) none (fun _ _ => True) ByteArray.size 9223372036854775807 (fun a b => a ++ b) f #[] where
  enters := he
  call a b w n _ h := (hc a b w h).mono fun e w' h => ⟨h.1, h.2 ▸ Xt.refl _, trivial⟩
  low _ _ _ s h := by cases h
  keep _ _ _ _ _ := trivial
  wtJ a b := by simp
theorem jokShown : JoinOK Try.prog (fun s : ByteArray => .string s) none (fun _ _ => True) ByteArray.size 9223372036854775807 (fun a b => a ++ b) 83 #[] := jokS en_TshownC tshown_any
theorem jokTexts : JoinOK Try.prog (fun s : ByteArray => .string s) none (fun _ _ => True) ByteArray.size 9223372036854775807 (fun a b => a ++ b) 44 #[] := jokS en_TtextsC ttexts_any
end Go.Proofs.Ytgglbohcnlcagaa
