/- The order of texts. -/
import Derived.WalkKit
import Derived.WalkLawsBesides
import Derived.WalkSpells
namespace Go.Proofs.YtokcgnbjkbhmiaaDoor
open Go.RowKit
set_option linter.unusedSimpArgs false

theorem bl_irrefl : ∀ a : List UInt8, Op.bytesLess a a = false
  | [] => rfl
  | a :: x => by simp [Op.bytesLess, bl_irrefl x]

theorem bl_tri : ∀ a b : List UInt8, (Op.bytesLess a b || a == b) = !Op.bytesLess b a
  | [], [] => rfl
  | [], b :: y => by simp [Op.bytesLess]
  | a :: x, [] => by simp [Op.bytesLess]
  | a :: x, b :: y => by
    have ih := bl_tri x y
    simp only [Op.bytesLess]
    by_cases h : a < b
    · have h1 : ¬ b < a := by simp only [UInt8.lt_iff_toNat_lt] at *; omega
      have h2 : ¬ b = a := fun e => by subst e; simp [UInt8.lt_iff_toNat_lt] at h
      simp [h, h1, h2]
    · by_cases h' : b < a
      · have h2 : ¬ a = b := fun e => by subst e; simp [UInt8.lt_iff_toNat_lt] at h'
        simp [h, h', h2]
      · have e : a = b := by
          apply UInt8.toNat_inj.1
          simp only [UInt8.lt_iff_toNat_lt] at *; omega
        subst e
        simp only [h, decide_false, Bool.false_or, BEq.rfl, Bool.true_and]
        rw [← ih]
        simp [List.cons_beq_cons]

theorem bl_triP (a b : List UInt8) : (Op.bytesLess a b = true ∨ a = b) ↔ Op.bytesLess b a = false := by
  have h := bl_tri a b
  constructor
  · rintro (h1 | h1)
    · simpa [h1] using h
    · subst h1; exact bl_irrefl _
  · intro h1
    rw [h1] at h
    simpa using h
theorem bl_triN (a b : List UInt8) : (Op.bytesLess a b = false ∧ ¬ a = b) ↔ Op.bytesLess b a = true := by
  have h := bl_triP a b
  cases h1 : Op.bytesLess a b <;> cases h2 : Op.bytesLess b a <;> simp_all
theorem bl_trans : ∀ {a b c : List UInt8}, Op.bytesLess a b = true → Op.bytesLess b c = true → Op.bytesLess a c = true
  | _, [], _, h, _ => by simp [Op.bytesLess] at h
  | _, _ :: _, [], _, h => by simp [Op.bytesLess] at h
  | [], _ :: _, _ :: _, _, _ => by simp [Op.bytesLess]
  | a :: x, b :: y, c :: z, h1, h2 => by
    simp only [Op.bytesLess, Bool.or_eq_true, decide_eq_true_eq, Bool.and_eq_true, beq_iff_eq] at *
    rcases h1 with h1 | ⟨rfl, h1⟩ <;> rcases h2 with h2 | ⟨rfl, h2⟩
    · left; simp only [UInt8.lt_iff_toNat_lt] at *; omega
    · left; exact h1
    · left; exact h2
    · right; exact ⟨rfl, bl_trans h1 h2⟩

theorem bl_asymm {a b : List UInt8} (h : Op.bytesLess a b = true) : Op.bytesLess b a = false := by
  cases h' : Op.bytesLess b a with
  | false => rfl
  | true => have := bl_trans h h'; rw [bl_irrefl] at this; cases this

theorem bl_eq {a b : List UInt8} (h : Op.bytesLess a b = false) (h' : Op.bytesLess b a = false) : a = b := by
  have := bl_tri a b
  simpa [h, h'] using this

theorem bl_ne {a b : List UInt8} (h : Op.bytesLess a b = true) : a ≠ b := fun e => by subst e; rw [bl_irrefl] at h; cases h

/-- not above, below: below. -/
theorem bl_le_lt {a b c : List UInt8} (h : Op.bytesLess b a = false) (h' : Op.bytesLess b c = true) : Op.bytesLess a c = true := by
  cases h1 : Op.bytesLess a b with
  | true => exact bl_trans h1 h'
  | false => rw [bl_eq h1 h]; exact h'
theorem bl_lt_le {a b c : List UInt8} (h : Op.bytesLess a b = true) (h' : Op.bytesLess c b = false) : Op.bytesLess a c = true := by
  cases h1 : Op.bytesLess b c with
  | true => exact bl_trans h h1
  | false => rw [← bl_eq h1 h']; exact h

theorem ba_toList (a : ByteArray) : a.toList = a.data.toList := by
  exact ByteArray.toList_eq a
theorem ba_ext {a b : ByteArray} (h : a.toList = b.toList) : a = b := by
  rw [ByteArray.toList_eq, ByteArray.toList_eq] at h
  exact ByteArray.ext (Array.ext' h)

theorem str_leq (t : TypeId) (a b : ByteArray) : binOp .leq t (.string a) (.string b) = pure (.bool (!Op.bytesLess b.toList a.toList)) := by
  rw [binOp_string_leq, bl_tri]
theorem str_gtr (t : TypeId) (a b : ByteArray) : binOp .gtr t (.string a) (.string b) = pure (.bool (Op.bytesLess b.toList a.toList)) := by
  rw [binOp_string_gtr, bl_tri]; simp
end Go.Proofs.YtokcgnbjkbhmiaaDoor
