/- Ghosts: GhostUpward, walked. -/
import Derived.Test.YtiimoaplhhnklaaDoorHH
namespace Go.Proofs.YtiimoaplhhnklaaDoor
open Go.RowKit Go.Shelf
set_option maxHeartbeats 4000000
set_option maxRecDepth 100000
set_option linter.unusedSimpArgs false
set_option linter.unusedVariables false
attribute [local go_sem ↓] eql_entE neq_entE

def wroteN (N A : List Ent) : List Ent := N.foldl (fun A e => wroteA e A) A
theorem wroteN_take {N : List Ent} {m : Nat} (h : m < N.length) : wroteN (N.take (m + 1)) [] = wroteA N[m] (wroteN (N.take m) []) := by
  unfold wroteN
  rw [List.take_succ_eq_append_getElem h, List.foldl_append]
  rfl
theorem held_ok {A : List Ent} {ls : Nat → List Ent} (h : LsOK A ls) (n : Int) : mChk (heldL n ls) = 0 ∧ (heldL n ls).length ≤ 1073741824 ∧ ∀ x ∈ heldL n ls, findN (nk x) A = some x := by
  unfold heldL
  split
  · rename_i hn
    obtain ⟨k, hk, rfl⟩ := isNd_at hn
    rw [Int.toNat_natCast]
    exact ⟨(h.ok k hk).1, (h.ok k hk).2, h.wr k hk⟩
  · exact ⟨rfl, by simp, fun x hx => by cases hx⟩
theorem held_nil (n : Int) : heldL n (fun _ => []) = [] := by unfold heldL; split <;> rfl
end Go.Proofs.YtiimoaplhhnklaaDoor
