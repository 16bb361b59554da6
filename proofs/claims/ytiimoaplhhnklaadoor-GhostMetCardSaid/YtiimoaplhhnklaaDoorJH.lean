/- Judging: the plain law of GhostMet: the best of two maps, whichever way round, is what a Judge calls met. -/
import Derived.Test.YtiimoaplhhnklaaDoorJG
namespace Go.Proofs.YtiimoaplhhnklaaDoor
open Go.RowKit
set_option maxHeartbeats 4000000
set_option maxRecDepth 100000
set_option linter.unusedSimpArgs false
set_option linter.unusedVariables false

theorem mChkP_all : ∀ (l : List Ent) (p : Option ByteArray), mChkP p l = 0 → ∀ x ∈ l, eChk x = 0
  | [], _, _, x, h => by cases h
  | e :: r, p, h, x, hx => by
    unfold mChkP at h
    split at h
    · rename_i h1
      exact absurd h h1
    · rename_i h1
      split at h
      · cases h
      · rcases List.mem_cons.1 hx with rfl | hx
        · exact Classical.byContradiction h1
        · exact mChkP_all r _ h x hx
theorem eChk_ctr {e : Ent} (h : eChk e = 0) : 1 ≤ e.ctr := by
  have hv : verCheck e.ctr e.node = 0 := by
    apply Classical.byContradiction
    intro hv
    unfold eChk entCheck at h
    split at h
    · cases h
    · first | (rw [if_pos hv] at h; cases h) | cases h
  unfold verCheck at hv
  split at hv
  · rename_i h1
    exact h1.1
  · cases hv
theorem chk2_zero {a b : List Ent} (h : chk2 a b = 0) : mChk a = 0 ∧ mChk b = 0 := by
  unfold chk2 at h
  split at h
  · rename_i h1
    exact absurd h h1
  · rename_i h1
    exact ⟨Classical.byContradiction h1, h⟩
theorem chk2_of {a b : List Ent} (h : mChk a = 0) (h' : mChk b = 0) : chk2 a b = 0 := by unfold chk2; rw [if_neg (fun e => e h), h']
theorem prs_mem : ∀ (a b : List Ent), ∀ p ∈ prs a b, (p.1 ∈ a ∧ p.2 = zE) ∨ (p.1 = zE ∧ p.2 ∈ b) ∨ (p.1 ∈ a ∧ p.2 ∈ b ∧ p.1.key = p.2.key)
  | [], [], p, h => by rw [prs_nn] at h; cases h
  | x :: a, [], p, h => by
    rw [prs_cn] at h
    rcases List.mem_cons.1 h with rfl | h
    · exact .inl ⟨List.mem_cons_self, rfl⟩
    · rcases prs_mem a [] p h with ⟨h1, h2⟩ | ⟨h1, h2⟩ | ⟨h1, h2, h3⟩
      · exact .inl ⟨List.mem_cons_of_mem _ h1, h2⟩
      · cases h2
      · cases h2
  | [], y :: b, p, h => by
    rw [prs_nc] at h
    rcases List.mem_cons.1 h with rfl | h
    · exact .inr (.inl ⟨rfl, List.mem_cons_self⟩)
    · rcases prs_mem [] b p h with ⟨h1, h2⟩ | ⟨h1, h2⟩ | ⟨h1, h2, h3⟩
      · cases h1
      · exact .inr (.inl ⟨h1, List.mem_cons_of_mem _ h2⟩)
      · cases h1
  | x :: a, y :: b, p, h => by
    rcases h1 : Op.bytesLess x.key.toList y.key.toList with _ | _
    · rcases h2 : Op.bytesLess y.key.toList x.key.toList with _ | _
      · rw [prs_eq h1 h2] at h
        rcases List.mem_cons.1 h with rfl | h
        · exact .inr (.inr ⟨List.mem_cons_self, List.mem_cons_self, ba_ext (bl_eq h1 h2)⟩)
        · rcases prs_mem a b p h with ⟨h3, h4⟩ | ⟨h3, h4⟩ | ⟨h3, h4, h5⟩
          · exact .inl ⟨List.mem_cons_of_mem _ h3, h4⟩
          · exact .inr (.inl ⟨h3, List.mem_cons_of_mem _ h4⟩)
          · exact .inr (.inr ⟨List.mem_cons_of_mem _ h3, List.mem_cons_of_mem _ h4, h5⟩)
      · rw [prs_gt h1 h2] at h
        rcases List.mem_cons.1 h with rfl | h
        · exact .inr (.inl ⟨rfl, List.mem_cons_self⟩)
        · rcases prs_mem (x :: a) b p h with ⟨h3, h4⟩ | ⟨h3, h4⟩ | ⟨h3, h4, h5⟩
          · exact .inl ⟨h3, h4⟩
          · exact .inr (.inl ⟨h3, List.mem_cons_of_mem _ h4⟩)
          · exact .inr (.inr ⟨h3, List.mem_cons_of_mem _ h4, h5⟩)
    · rw [prs_lt h1] at h
      rcases List.mem_cons.1 h with rfl | h
      · exact .inl ⟨List.mem_cons_self, rfl⟩
      · rcases prs_mem a (y :: b) p h with ⟨h3, h4⟩ | ⟨h3, h4⟩ | ⟨h3, h4, h5⟩
        · exact .inl ⟨List.mem_cons_of_mem _ h3, h4⟩
        · exact .inr (.inl ⟨h3, h4⟩)
        · exact .inr (.inr ⟨List.mem_cons_of_mem _ h3, h4, h5⟩)
termination_by a b => a.length + b.length
theorem bestE_self (y : Ent) : bestE y y = y := by unfold bestE; split <;> rfl
theorem there_ctr {x : Ent} (h : 1 ≤ x.ctr) : thereE x = true := by
  unfold thereE
  rw [decide_eq_false (show ¬ x.ctr = 0 by omega)]
  rfl
theorem there_zE : thereE zE = false := by decide
theorem newer_iff (a b : Ent) : newer a b = true ↔ b.ctr < a.ctr ∨ (a.ctr = b.ctr ∧ b.node < a.node) := by
  unfold newer cmpV
  simp only [decide_eq_true_eq, firstNZ, cmpI]
  (repeat' split) <;> (constructor <;> intro h <;> first | omega | (simp at * <;> omega))
/-- The shapes that a pair of two lists that may be has. -/
def OkP (p : Ent × Ent) : Prop := (1 ≤ p.1.ctr ∧ p.2 = zE) ∨ (p.1 = zE ∧ 1 ≤ p.2.ctr) ∨ (1 ≤ p.1.ctr ∧ 1 ≤ p.2.ctr ∧ p.1.key = p.2.key)
theorem okP {a b : List Ent} (h : chk2 a b = 0) : ∀ p ∈ prs a b, OkP p := fun p hp => by
  obtain ⟨ha, hb⟩ := chk2_zero h
  rcases prs_mem a b p hp with ⟨h1, h2⟩ | ⟨h1, h2⟩ | ⟨h1, h2, h3⟩
  · exact .inl ⟨eChk_ctr (mChkP_all _ _ ha _ h1), h2⟩
  · exact .inr (.inl ⟨h1, eChk_ctr (mChkP_all _ _ hb _ h2)⟩)
  · exact .inr (.inr ⟨eChk_ctr (mChkP_all _ _ ha _ h1), eChk_ctr (mChkP_all _ _ hb _ h2), h3⟩)
theorem mBest_l {x : Ent} (h : 1 ≤ x.ctr) : mBest (x, zE) = x := by
  unfold mBest bestE
  rw [if_pos (there_ctr h), if_neg]
  intro h1
  rw [newer_iff] at h1
  have : zE.ctr = 0 := rfl
  dsimp only at h1
  omega
theorem mBest_r {y : Ent} : mBest (zE, y) = y := by
  unfold mBest
  rw [if_neg (by rw [there_zE]; simp), bestE_self]
theorem mBest_b {x y : Ent} (h : 1 ≤ x.ctr) : mBest (x, y) = bestE x y := by
  unfold mBest
  rw [if_pos (there_ctr h)]
theorem rBest_eq {p : Ent × Ent} (h : OkP p) : rBest p = mBest p := by
  obtain ⟨x, y⟩ := p
  rcases h with ⟨h1, h2⟩ | ⟨h1, h2⟩ | ⟨h1, h2, h3⟩
  · unfold rBest mBest
    dsimp only at *
    rw [if_neg (by omega), if_pos (there_ctr h1)]
  · dsimp only at *
    subst h1
    rw [mBest_r]
    rfl
  · dsimp only at *
    rw [mBest_b h1]
    unfold rBest
    rw [if_neg (by dsimp only; omega)]
theorem rmaxR_eq (a b : List Ent) : rmaxR a b = maxR a b := by
  unfold rmaxR maxR
  split
  · rename_i h
    exact List.map_congr_left fun p hp => rBest_eq (okP h p hp)
  · rfl
theorem prs_zip : ∀ (L : List (Ent × Ent)), (∀ q ∈ L, q.1.key = q.2.key) → prs (L.map Prod.fst) (L.map Prod.snd) = L
  | [], _ => by rw [List.map_nil, List.map_nil, prs_nn]
  | (x, y) :: L, h => by
    have hk : x.key = y.key := h (x, y) List.mem_cons_self
    rw [List.map_cons, List.map_cons, prs_eq (by dsimp only; rw [hk, bl_irrefl]) (by dsimp only; rw [hk, bl_irrefl]), prs_zip L fun q hq => h q (List.mem_cons_of_mem _ hq)]
theorem mBest_swap {p : Ent × Ent} (h : OkP p) : (mBest p).key = (mBest (p.2, p.1)).key ∧ vEq (mBest p, mBest (p.2, p.1)) = true := by
  obtain ⟨x, y⟩ := p
  rcases h with ⟨h1, h2⟩ | ⟨h1, h2⟩ | ⟨h1, h2, h3⟩
  · dsimp only at *
    subst h2
    rw [mBest_l h1, mBest_r]
    exact ⟨rfl, by simp [vEq]⟩
  · dsimp only at *
    subst h1
    rw [mBest_l h2, mBest_r]
    exact ⟨rfl, by simp [vEq]⟩
  · dsimp only at *
    rw [mBest_b h1, mBest_b h2]
    unfold bestE vEq
    have e1 := newer_iff x y
    have e2 := newer_iff y x
    by_cases h4 : newer y x = true <;> by_cases h5 : newer x y = true
    · rw [e1] at h5; rw [e2] at h4; omega
    · rw [if_pos h4, if_neg h5]; exact ⟨rfl, by simp⟩
    · rw [if_neg h4, if_pos h5]; exact ⟨rfl, by simp⟩
    · rw [if_neg h4, if_neg h5]
      rw [e1] at h5; rw [e2] at h4
      exact ⟨h3, decide_eq_true (by dsimp only; omega)⟩
theorem alikeB_self (X : List Ent) : alikeB X X = true := by
  unfold alikeB
  rw [difR_nil fun _ p hp => by
    rw [prs_self] at hp
    obtain ⟨x, -, rfl⟩ := List.mem_map.1 hp
    simp [vEq]]
  rfl
theorem alikeB_swap (a b : List Ent) : alikeB (maxR a b) (maxR b a) = true := by
  unfold alikeB
  rw [difR_nil fun _ => ?_]
  · rfl
  by_cases h : chk2 a b = 0
  · have h' : chk2 b a = 0 := chk2_of (chk2_zero h).2 (chk2_zero h).1
    obtain ⟨L, hL⟩ : ∃ L, (prs a b).map (fun p => (mBest p, mBest (p.2, p.1))) = L := ⟨_, rfl⟩
    have e1 : maxR a b = L.map Prod.fst := by
      unfold maxR
      rw [if_pos h, ← hL, List.map_map]
      rfl
    have e2 : maxR b a = L.map Prod.snd := by
      unfold maxR
      rw [if_pos h', ← hL, prs_swap a b, List.map_map, List.map_map]
      rfl
    rw [e1, e2, prs_zip L]
    · intro p hp
      rw [← hL] at hp
      obtain ⟨q, hq, rfl⟩ := List.mem_map.1 hp
      exact (mBest_swap (okP h q hq)).2
    · intro p hp
      rw [← hL] at hp
      obtain ⟨q, hq, rfl⟩ := List.mem_map.1 hp
      exact (mBest_swap (okP h q hq)).1
  · have h' : ¬ chk2 b a = 0 := fun e => h (chk2_of (chk2_zero e).2 (chk2_zero e).1)
    unfold maxR
    rw [if_neg h, if_neg h', prs_nn]
    intro p hp
    cases hp
theorem gChk_swap {a b X : List Ent} {br lf rf : Int} (h : gChk [a, b, X, X] br lf rf = 0) : gChk [b, a, X, X] br lf rf = 0 := by
  obtain ⟨h1, h2⟩ := gChk_zero h
  rw [gChk_none fun x hx => h1 x (by
    simp only [List.mem_cons, List.not_mem_nil, or_false] at hx ⊢
    rcases hx with h | h | h | h
    · exact .inr (.inl h)
    · exact .inl h
    · exact .inr (.inr (.inl h))
    · exact .inr (.inr (.inr h))), if_pos h2]
end Go.Proofs.YtiimoaplhhnklaaDoor
