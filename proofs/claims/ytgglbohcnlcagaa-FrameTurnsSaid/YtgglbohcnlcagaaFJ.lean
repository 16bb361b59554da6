/- The turns of a session's frames. -/
import Derived.Test.YtgglbohcnlcagaaFI
namespace Go.Proofs.Ytgglbohcnlcagaa
open Go.RowKit
set_option maxHeartbeats 4000000
set_option maxRecDepth 100000

/-- A part of items for all keys, with none in it. -/
def itPart : Prt := ⟨2, ⟨#[]⟩, ⟨#[]⟩, true, 0, 0, 0, []⟩
theorem partsChk_it : partsChk [itPart] = 0 := by
  have h : partChk none itPart = 0 := by
    unfold partChk itPart
    rw [if_neg (by simp [fieldsErr]), if_neg (by simp [rngCheck]; decide), if_neg (by simp [tilesBad]), if_pos (by decide)]
    simp [partItems, itemsChk]
  rw [partsChk_eq, if_neg (by simp), if_neg (by simp [entsSum, itPart])]
  simp [partsGo, h]
theorem frmChk_parts {f t o li nu tu : Int} {l : List Prt} (h : frmChk ⟨f, t, o, li, nu, tu, l⟩ = 0) : endsOk f t o ∧ checkName o li nu = 0 ∧ turnOk f o tu := by
  rw [frmChk_eq] at h
  split at h
  · simp at h
  · rename_i h1
    split at h
    · simp at h
    · rename_i h2
      split at h
      · simp at h
      · rename_i h3; exact ⟨by simpa using h1, by simpa using h2, by simpa using h3⟩
theorem endsOk_swap {f t o : Int} (h : endsOk f t o) : endsOk t f o := by
  obtain ⟨h1, h2, h3, h4⟩ := h
  exact ⟨h2, h1, fun e => h3 e.symm, h4.symm⟩
theorem frmChk_next {f t o li nu tu : Int} {l : List Prt} (h : frmChk ⟨f, t, o, li, nu, tu, l⟩ = 0) : frmChk ⟨t, f, o, li, nu, tu + 1, [itPart]⟩ = if tu + 1 ≤ 63 then 0 else 112 := by
  obtain ⟨h1, h2, h3, h4, h5⟩ := frmChk_parts h
  rw [frmChk_eq, if_neg (fun k => k (endsOk_swap h1)), if_neg (fun k => k h2)]
  by_cases hk : tu + 1 ≤ 63
  · have ht : turnOk t o (tu + 1) := by
      refine ⟨by omega, hk, ?_⟩
      obtain ⟨-, -, hne, ho⟩ := h1
      by_cases e : tu % 2 = 0
      · have := h5.1 e
        constructor
        · intro h'; omega
        · intro h'; exact absurd (this.trans h'.symm) hne
      · have hfo : ¬ f = o := fun e' => e (h5.2 e')
        constructor
        · intro _; rcases ho with rfl | rfl
          · exact absurd rfl hfo
          · rfl
        · intro _; omega
    rw [if_neg (fun k => k ht), if_neg (fun k => k partsChk_it), if_neg (fun k => by omega), if_pos hk]
  · rw [if_pos (fun k => hk k.2.1), if_neg hk]
end Go.Proofs.Ytgglbohcnlcagaa
