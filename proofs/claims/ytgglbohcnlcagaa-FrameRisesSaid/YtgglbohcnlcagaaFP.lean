/- The plain law: in a frame that may be the ranges rise, each entry is in its part's, and the keys of all entries rise. -/
import Derived.Test.YtgglbohcnlcagaaFM
import Derived.Test.YtgglbohcnlcagaaF7
import Derived.Test.YtgglbohcnlcagaaFA
namespace Go.Proofs.Ytgglbohcnlcagaa
open Go.RowKit
set_option maxHeartbeats 4000000
set_option linter.unusedSimpArgs false
set_option linter.unusedVariables false

theorem frm_parts {f t o li nu tu : Int} {l : List Prt} (h : frmChk ⟨f, t, o, li, nu, tu, l⟩ = 0) : partsChk l = 0 := by
  rw [frmChk_eq] at h
  split at h
  · simp at h
  · split at h
    · simp at h
    · split at h
      · simp at h
      · split at h
        · rename_i h4; exact absurd h h4
        · rename_i h4; simpa using h4
theorem parts_few {l : List Prt} (h : partsChk l = 0) : l.length ≤ 768 ∧ entsSum l ≤ 256 ∧ partsGo none l = 0 := by
  rw [partsChk_eq] at h
  split at h
  · simp at h
  · split at h
    · simp at h
    · exact ⟨by omega, by omega, h⟩

def rngOf (p : Prt) : Rng := ⟨p.lo, p.hi, p.op⟩
def keysOf (l : List Prt) : List ByteArray := l.flatMap fun p => p.ents.map (·.key)
def keyLt (a b : ByteArray) : Prop := Op.bytesLess a.toList b.toList = true

/-- What a good part says of itself and of the one ahead of it. -/
structure GoodPart (prev : Option Prt) (p : Prt) : Prop where
  nempty : rngEmpty p.lo p.hi p.op = false
  rng : rngCheck p.lo p.hi p.op = 0
  tile : ∀ q, prev = some q → q.op = false ∧ Op.bytesLess p.lo.toList q.hi.toList = false
  items : itemsChk p.lo p.hi p.op none p.ents = 0

theorem partChk_good {prev : Option Prt} {p : Prt} (h : partChk prev p = 0) : GoodPart prev p := by
  unfold partChk at h
  split at h
  · simp at h
  · rename_i h1
    split at h
    · rename_i h2; exact absurd h h2
    · rename_i h2
      have h2' : rngCheck p.lo p.hi p.op = 0 := by simpa using h2
      split at h
      · simp at h
      · rename_i h3
        have h3' : tilesBad prev p = false := by simpa using h3
        unfold tilesBad at h3'
        rw [Bool.or_eq_false_iff] at h3'
        refine ⟨?_, h2', ?_, ?_⟩
        · unfold rngEmpty; rw [h2']; simpa using h3'.1
        · rintro q rfl
          have := h3'.2
          rw [Bool.or_eq_false_iff] at this
          exact this
        · by_cases hk : p.kind = 1
          · have h1' : fieldsErr p = 0 := by simpa using h1
            unfold fieldsErr at h1'
            split at h1'
            · simp at h1'
            · rename_i h5
              have : p.ents = [] := by
                apply List.eq_nil_of_length_eq_zero
                omega
              rw [this]; rfl
          · rw [if_pos hk] at h
            unfold partItems at h
            split at h
            · rename_i h6; exact absurd h h6
            · rename_i h6; simpa using h6

theorem partsGo_good : ∀ {prev : Option Prt} {l : List Prt}, partsGo prev l = 0 → ∀ i, (h : i < l.length) → GoodPart (if i = 0 then prev else l[i - 1]?) l[i]
  | prev, [], _, i, h => by simp at h
  | prev, p :: r, hg, i, h => by
    unfold partsGo at hg
    split at hg
    · rename_i h1; exact absurd hg h1
    · rename_i h1
      have h1' : partChk prev p = 0 := by simpa using h1
      cases i with
      | zero => simpa using partChk_good h1'
      | succ j =>
        have := partsGo_good hg j (by simpa using h)
        cases j with
        | zero => simpa using this
        | succ k => simpa using this

theorem itemsChk_good (lo hi : ByteArray) (op : Bool) : ∀ {prev : Option ByteArray} {l : List Ent}, itemsChk lo hi op prev l = 0 →
    (∀ e ∈ l, rngHolds lo hi op e.key = true) ∧ (l.map (·.key)).Pairwise keyLt ∧ ∀ q, prev = some q → ∀ e ∈ l, keyLt q e.key
  | prev, [], _ => ⟨by simp, by simp, by simp⟩
  | prev, e :: r, h => by
    unfold itemsChk at h
    split at h
    · rename_i h1; exact absurd h h1
    · split at h
      · simp at h
      · rename_i h2
        obtain ⟨a1, a2, a3⟩ := itemsChk_good lo hi op h
        have h3 : rngHolds lo hi op e.key = true := by
          cases hh : rngHolds lo hi op e.key with
          | true => rfl
          | false => exact absurd (Or.inl hh) h2
        have h4 : ∀ q, prev = some q → keyLt q e.key := fun q hq => by
          unfold keyLt
          cases hh : Op.bytesLess q.toList e.key.toList with
          | true => rfl
          | false => exact absurd (Or.inr ⟨q, hq, hh⟩) h2
        refine ⟨?_, ?_, ?_⟩
        · intro x hx
          rcases List.mem_cons.1 hx with rfl | hx
          · exact h3
          · exact a1 x hx
        · rw [List.map_cons, List.pairwise_cons]
          refine ⟨?_, a2⟩
          intro k hk
          obtain ⟨x, hx, rfl⟩ := List.mem_map.1 hk
          exact a3 _ rfl x hx
        · intro q hq x hx
          rcases List.mem_cons.1 hx with rfl | hx
          · exact h4 q hq
          · exact bl_trans (h4 q hq) (a3 _ rfl x hx)

theorem holds_lo {lo hi key : ByteArray} {op : Bool} (h : rngHolds lo hi op key = true) : Op.bytesLess key.toList lo.toList = false ∧ (op = false → Op.bytesLess key.toList hi.toList = true) := by
  unfold rngHolds at h
  simp only [Bool.and_eq_true, Bool.or_eq_true, Bool.not_eq_true'] at h
  refine ⟨h.2.2.1, fun ho => ?_⟩
  rcases h.2.2.2 with h | h
  · rw [ho] at h; cases h
  · exact h
theorem rng_lohi {lo hi : ByteArray} (h : rngCheck lo hi false = 0) : Op.bytesLess hi.toList lo.toList = false := by
  unfold rngCheck at h
  split at h
  · simp at h
  · split at h
    · simp at h
    · rename_i h2
      have h3 : ¬ (Op.bytesLess lo.toList hi.toList = false ∧ (lo.toList == hi.toList) = false) := fun hh => h2 (Or.inr ⟨rfl, hh⟩)
      cases h4 : Op.bytesLess hi.toList lo.toList with
      | false => rfl
      | true => exact absurd ⟨bl_asymm h4, by have := bl_ne h4; simp [Ne.symm this]⟩ h3
theorem bl_le_trans {a b c : List UInt8} (h : Op.bytesLess b a = false) (h' : Op.bytesLess c b = false) : Op.bytesLess c a = false := by
  cases h1 : Op.bytesLess c a with
  | false => rfl
  | true => rw [bl_lt_le h1 h] at h'; cases h'

theorem keys_rise : ∀ {prev : Option Prt} {l : List Prt}, partsGo prev l = 0 → (keysOf l).Pairwise keyLt ∧ ∀ q, prev = some q → ∀ k ∈ keysOf l, q.op = false ∧ Op.bytesLess k.toList q.hi.toList = false
  | prev, [], _ => ⟨by simp [keysOf], by simp [keysOf]⟩
  | prev, p :: r, h => by
    unfold partsGo at h
    split at h
    · rename_i h1; exact absurd h h1
    · rename_i h1
      have hG := partChk_good (show partChk prev p = 0 by simpa using h1)
      obtain ⟨a1, a2, -⟩ := itemsChk_good _ _ _ hG.items
      obtain ⟨b1, b2⟩ := keys_rise h
      have e : keysOf (p :: r) = p.ents.map (·.key) ++ keysOf r := by simp [keysOf]
      rw [e]
      refine ⟨?_, ?_⟩
      · rw [List.pairwise_append]
        refine ⟨a2, b1, ?_⟩
        intro x hx y hy
        obtain ⟨en, hen, rfl⟩ := List.mem_map.1 hx
        obtain ⟨c1, c2⟩ := b2 p rfl y hy
        exact bl_lt_le ((holds_lo (a1 en hen)).2 c1) c2
      · intro q hq k hk
        obtain ⟨d1, d2⟩ := hG.tile q hq
        refine ⟨d1, ?_⟩
        rcases List.mem_append.1 hk with hk | hk
        · obtain ⟨en, hen, rfl⟩ := List.mem_map.1 hk
          exact bl_le_trans d2 (holds_lo (a1 en hen)).1
        · obtain ⟨c1, c2⟩ := b2 p rfl k hk
          exact bl_le_trans (bl_le_trans d2 (rng_lohi (by have := hG.rng; rwa [c1] at this))) c2

/-- All that the law asks of a frame that may be. -/
theorem frame_rises {f t o li nu tu : Int} {l : List Prt} (h : frmChk ⟨f, t, o, li, nu, tu, l⟩ = 0) :
    l.length ≤ 768 ∧ entsSum l ≤ 256 ∧ (∀ p ∈ l, rngEmpty p.lo p.hi p.op = false) ∧ Rises (l.map rngOf) ∧ (∀ p ∈ l, ∀ e ∈ p.ents, rngHolds p.lo p.hi p.op e.key = true) ∧ (keysOf l).Pairwise keyLt := by
  obtain ⟨h1, h2, h3⟩ := parts_few (frm_parts h)
  have hg := partsGo_good h3
  have hm : ∀ p ∈ l, ∃ q, GoodPart q p := fun p hp => by
    obtain ⟨i, hi, rfl⟩ := List.mem_iff_getElem.1 hp
    exact ⟨_, hg i hi⟩
  refine ⟨h1, h2, fun p hp => (hm p hp).choose_spec.nempty, ?_, fun p hp e he => ?_, (keys_rise h3).1⟩
  · intro i hi
    have hi' : i + 1 < l.length := by simpa using hi
    have := (hg (i + 1) hi').tile l[i] (by simp)
    simpa [rngOf] using this
  · exact (itemsChk_good _ _ _ (hm p hp).choose_spec.items).1 e he

theorem entsNum_small {l : List Prt} (h : entsSum l ≤ 256) : entsNum l = entsSum l := by
  have hk : ∀ k, k ≤ l.length → entsNum (l.take k) = entsSum (l.take k) := by
    intro k
    induction k with
    | zero => intro _; simp [entsNum, entsSum]
    | succ k ih =>
      intro hk
      rw [entsNum_take_succ l k (by omega), entsSum_take_succ l k (by omega), ih (by omega)]
      have := entsSum_take_le l (k + 1)
      rw [entsSum_take_succ l k (by omega)] at this
      rw [IntKind.wrap_i64]; omega
  have := hk l.length (Nat.le_refl _)
  rwa [List.take_length] at this
theorem keysOf_length (l : List Prt) : (keysOf l).length = entsSum l := by
  unfold keysOf entsSum
  rw [List.length_flatMap]
  simp
end Go.Proofs.Ytgglbohcnlcagaa
