/- Ghosts: GhostUpward, walked. -/
import Derived.Test.YtiimoaplhhnklaaDoorHG
import Derived.Test.YtiimoaplhhnklaaDoorHF
namespace Go.Proofs.YtiimoaplhhnklaaDoor
open Go.RowKit Go.Shelf
set_option maxHeartbeats 4000000
set_option maxRecDepth 100000
set_option linter.unusedSimpArgs false
set_option linter.unusedVariables false
attribute [local go_sem ↓] eql_entE neq_entE

theorem prs_swap : ∀ (a b : List Ent), prs b a = (prs a b).map fun p => (p.2, p.1)
  | [], [] => by rw [prs_nn]; rfl
  | x :: a, [] => by rw [prs_cn, prs_nc, prs_swap a []]; rfl
  | [], y :: b => by rw [prs_cn, prs_nc, prs_swap [] b]; rfl
  | x :: a, y :: b => by
    rcases h1 : Op.bytesLess x.key.toList y.key.toList with _ | _
    · rcases h2 : Op.bytesLess y.key.toList x.key.toList with _ | _
      · rw [prs_eq h1 h2, prs_eq h2 h1, prs_swap a b]; rfl
      · rw [prs_gt h1 h2, prs_lt h2, prs_swap (x :: a) b]; rfl
    · rw [prs_lt h1, prs_gt (bl_asymm h1) h1, prs_swap a (y :: b)]; rfl
termination_by a b => a.length + b.length
theorem prs_self : ∀ (a : List Ent), prs a a = a.map fun x => (x, x)
  | [] => by rw [prs_nn]; rfl
  | x :: a => by rw [prs_eq (bl_irrefl _) (bl_irrefl _), prs_self a]; rfl
theorem prs_right : ∀ (a b : List Ent), ∀ y ∈ b, ∃ p ∈ prs a b, p.2 = y
  | [], [], y, h => by cases h
  | x :: a, [], y, h => by cases h
  | [], y :: b, z, h => by
    rw [prs_nc]
    rcases List.mem_cons.1 h with rfl | h
    · exact ⟨_, List.mem_cons_self, rfl⟩
    · obtain ⟨p, h1, h2⟩ := prs_right [] b z h
      exact ⟨p, List.mem_cons_of_mem _ h1, h2⟩
  | x :: a, y :: b, z, h => by
    rcases h1 : Op.bytesLess x.key.toList y.key.toList with _ | _
    · rcases h2 : Op.bytesLess y.key.toList x.key.toList with _ | _
      · rw [prs_eq h1 h2]
        rcases List.mem_cons.1 h with rfl | h
        · exact ⟨_, List.mem_cons_self, rfl⟩
        · obtain ⟨p, h3, h4⟩ := prs_right a b z h
          exact ⟨p, List.mem_cons_of_mem _ h3, h4⟩
      · rw [prs_gt h1 h2]
        rcases List.mem_cons.1 h with rfl | h
        · exact ⟨_, List.mem_cons_self, rfl⟩
        · obtain ⟨p, h3, h4⟩ := prs_right (x :: a) b z h
          exact ⟨p, List.mem_cons_of_mem _ h3, h4⟩
    · rw [prs_lt h1]
      obtain ⟨p, h3, h4⟩ := prs_right a (y :: b) z h
      exact ⟨p, List.mem_cons_of_mem _ h3, h4⟩
termination_by a b => a.length + b.length
theorem newer_irr (x : Ent) : newer x x = false := by
  unfold newer cmpV cmpI
  simp [firstNZ]
theorem sees_all {A : List Ent} {a b : List Ent} (h : seesP A (prs a b) = none) : (∀ p ∈ prs b a, newer p.2 p.1 = false) ∧ ∀ y ∈ b, findN (nk y) A = some y := by
  have hb : ∀ p ∈ prs a b, badP A p = none := fun p hp => List.findSome?_eq_none_iff.1 h p hp
  constructor
  · intro p hp
    rw [prs_swap a b] at hp
    obtain ⟨q, hq, rfl⟩ := List.mem_map.1 hp
    have := hb q hq
    unfold badP at this
    cases hn : newer q.1 q.2 with
    | false => rfl
    | true => rw [if_pos hn] at this; cases this
  · intro y hy
    obtain ⟨p, hp, rfl⟩ := prs_right a b y hy
    have := hb p hp
    unfold badP at this
    split at this
    · cases this
    · split at this
      · assumption
      · cases this
/-- A slice of lists, in an argument. -/
def SnSl (w : World) (v : Value) (S : List (List Ent)) : Prop := ∃ a c, v = .slice a S.length c ∧ S.length ≤ c ∧ S.length ≤ 4611686018427387904 ∧ (0 < S.length → ∃ b o, a = some ⟨b, o, none⟩ ∧ ∀ i, (h : i < S.length) → ∃ sv, w.cell? ⟨b, o + i, none⟩ = some sv ∧ EntSl w sv S[i])
/-- All that is held may be, and was written. -/
structure LsOK (A : List Ent) (ls : Nat → List Ent) : Prop where
  ok : ∀ i, i < 8 → mChk (ls i) = 0 ∧ (ls i).length ≤ 1073741824
  wr : ∀ i, i < 8 → ∀ x ∈ ls i, findN (nk x) A = some x
theorem seesO_ne {n : Int} {l A : List Ent} {ls : Nat → List Ent} {r : ByteArray × Int} (h : seesO n l A ls = some r) : r.2 ≠ 0 := by
  unfold seesO at h
  split at h
  · cases h; simp
  · split at h
    · cases h; assumption
    · unfold seesP at h
      obtain ⟨p, -, hb⟩ := List.exists_of_findSome?_eq_some h
      unfold badP at hb
      split at hb
      · cases hb; simp
      · split at hb
        · cases hb
        · cases hb; simp
theorem seesO_none {n : Int} {l A : List Ent} {ls : Nat → List Ent} (h : seesO n l A ls = none) : isNd n = true ∧ mChk l = 0 ∧ seesP A (prs (ls n.toNat) l) = none := by
  unfold seesO at h
  split at h
  · cases h
  · rename_i h1
    split at h
    · cases h
    · rename_i h2
      exact ⟨by simpa using h1, by simpa using h2, h⟩
/-- What one look does: the list held now is above the one held before, is what was looked at if nothing was wrong, the one before otherwise, and was written. -/
theorem sees_step {n : Int} {l A : List Ent} {ls : Nat → List Ent} (h : LsOK A ls) (hl : l.length ≤ 1073741824) :
    LsOK A (seesLs n l A ls) ∧ (∀ p ∈ prs (heldL n (seesLs n l A ls)) (heldL n ls), newer p.2 p.1 = false) ∧
      (seesO n l A ls = none → heldL n (seesLs n l A ls) = l ∧ (seesR n l A ls).2 = 0) ∧ (seesO n l A ls ≠ none → heldL n (seesLs n l A ls) = heldL n ls ∧ (seesR n l A ls).2 ≠ 0) := by
  cases ho : seesO n l A ls with
  | none =>
    obtain ⟨h1, h2, h3⟩ := seesO_none ho
    obtain ⟨k, hk, rfl⟩ := isNd_at h1
    rw [Int.toNat_natCast] at h3
    obtain ⟨h4, h5⟩ := sees_all h3
    have e1 : seesLs (k : Int) l A ls = upd ls k l := by unfold seesLs; rw [ho, if_pos rfl, Int.toNat_natCast]
    have e2 : heldL (k : Int) (upd ls k l) = l := by unfold heldL upd; rw [if_pos h1, Int.toNat_natCast, if_pos rfl]
    have e3 : heldL (k : Int) ls = ls k := by unfold heldL; rw [if_pos h1, Int.toNat_natCast]
    rw [e1, e2, e3]
    refine ⟨⟨fun i hi => ?_, fun i hi => ?_⟩, h4, fun _ => ⟨rfl, by unfold seesR; rw [ho]; rfl⟩, fun h => absurd rfl h⟩
    · unfold upd; split
      · exact ⟨h2, hl⟩
      · exact h.ok i hi
    · unfold upd; split
      · exact h5
      · exact h.wr i hi
  | some r =>
    have e1 : seesLs n l A ls = ls := by unfold seesLs; rw [ho, if_neg (by simp)]
    rw [e1, prs_self]
    refine ⟨h, fun p hp => ?_, (fun h => by cases h), fun _ => ⟨rfl, by unfold seesR; rw [ho]; exact seesO_ne ho⟩⟩
    obtain ⟨x, -, rfl⟩ := List.mem_map.1 hp
    exact newer_irr x
end Go.Proofs.YtiimoaplhhnklaaDoor
