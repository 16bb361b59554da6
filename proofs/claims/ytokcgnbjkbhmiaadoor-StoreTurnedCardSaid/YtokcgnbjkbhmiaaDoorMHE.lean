/- Ghosts: Sees. Ghosts: merge's Above, where it is so. Ghosts: are two lists the same; how much a list weighs. Ghosts: GhostUpward, walked. -/
import Derived.Test.YtokcgnbjkbhmiaaDoorMHC
import Derived.Test.YtokcgnbjkbhmiaaDoorInM
import Derived.Test.YtokcgnbjkbhmiaaDoorMHA
import Derived.Test.YtokcgnbjkbhmiaaDoorMTA
import Derived.Lib.MinMax
namespace Go.Proofs.YtokcgnbjkbhmiaaDoor
open Go.RowKit Go.Shelf
set_option maxHeartbeats 4000000
set_option maxRecDepth 100000
set_option linter.unusedSimpArgs false
set_option linter.unusedVariables false
attribute [local go_sem] Oper.semAt_some
attribute [local go_sem ↓] eql_entE neq_entE

def badP (A : List Ent) (p : Ent × Ent) : Option (ByteArray × Int) := if newer p.1 p.2 then some (p.1.key, 191) else if findN (nk p.2) A = some p.2 then none else some (p.2.key, 192)
def seesP (A : List Ent) (ps : List (Ent × Ent)) : Option (ByteArray × Int) := ps.findSome? (badP A)
def seesO (n : Int) (l : List Ent) (A : List Ent) (ls : Nat → List Ent) : Option (ByteArray × Int) := if isNd n = false then some (⟨#[]⟩, 1) else if mChk l ≠ 0 then some (⟨#[]⟩, mChk l) else seesP A (prs (ls n.toNat) l)
def seesR (n : Int) (l : List Ent) (A : List Ent) (ls : Nat → List Ent) : ByteArray × Int := (seesO n l A ls).getD (⟨#[]⟩, 0)
def upd {α : Type} (f : Nat → α) (k : Nat) (v : α) : Nat → α := fun i => if i = k then v else f i
def seesLs (n : Int) (l : List Ent) (A : List Ent) (ls : Nat → List Ent) : Nat → List Ent := if seesO n l A ls = none then upd ls n.toNat l else ls
theorem gen_contH {K : Act → World → Prop} {Q : Exit → Act → World → Prop} {a : Act} {w : World} (R : World → Prop) (h0 : R w) (h : ∀ W, R W → Exit.then K Q .normal a W) : Exit.then K Q .normal a w := h w h0
theorem xl_cat {L : List Nat} {a b c : World} (h : Xl L a b) (k : Xl L b c) : Xl L a c := Xl.trans _ _ _ h k
theorem xl_cat' {L L' : List Nat} {a b c : World} (h : Xl L a b) (k : Xl L' b c) (hL : ∀ x ∈ L', a.heap.size ≤ x) : Xl L a c :=
  ⟨k.os.trans h.os, k.tape.trans h.tape, k.output.trans h.output, Nat.le_trans h.size k.size, fun x hx hn => (k.block x (Nat.lt_of_lt_of_le hx h.size) (fun hm => by have := hL x hm; omega)).trans (h.block x hx hn)⟩
theorem xl_put {L : List Nat} (W : World) (D : Nat) (o : Obj) (h : D ∈ L) : Xl L W (W.putObj D o) :=
  have g := grownBy_putObj' W D o
  ⟨g.os, g.tape, g.output, g.size, fun k hk hn => g.block k hk (fun e => by cases e; exact hn h)⟩
theorem entAt_own {X Y : World} {row : Option Nat} {B o : Nat} {e : Ent} (h : EntAt X B o e) (hg : X.grownBy Y row) (hr : ∀ r, row = some r → ∃ o : Obj, X.heap[r]? = some o ∧ o.isCells = false) : EntAt Y B o e :=
  ⟨cell_kept h.c0 hg hr, cell_kept h.c1 hg hr, cell_kept h.c2 hg hr, cell_kept h.c3 hg hr, cell_kept h.c4 hg hr⟩
end Go.Proofs.YtokcgnbjkbhmiaaDoor
namespace Go.Proofs.YtokcgnbjkbhmiaaDoor
open Go.RowKit Go.Shelf
set_option maxHeartbeats 4000000
set_option maxRecDepth 100000
set_option linter.unusedSimpArgs false
set_option linter.unusedVariables false
attribute [local go_sem] Oper.semAt_some
attribute [local go_sem ↓] eql_entE neq_entE

structure AI (w : World) (X : World) : Prop where
  bl : Below w.heap.size w X
  b1 : Boxed X w.heap.size 4 (.bool false)
  b2 : Boxed X (w.heap.size + 1) 42 (.int .i64 0)
theorem AI.own {w : World} {B : Nat} (hB : w.heap.size ≤ B) : OwnFrom (β := Unit) B (fun _ X => AI w X) := fun s X Y row h hg hr => by
  have hr' : ∀ r, row = some r → ∃ o : Obj, X.heap[r]? = some o ∧ o.isCells = false := fun r e => (hr r e).2
  exact ⟨ownFrom_below (β := Unit) (Nat.le_refl _) hB s X Y row h.bl hg hr, boxed_own (β := Unit) _ _ (fun _ => _) s X Y row h.b1 hg hr', boxed_own (β := Unit) _ _ (fun _ => _) s X Y row h.b2 hg hr'⟩
theorem AI.ext {w X Y : World} (h : AI w X) (hx : Ext X Y) : AI w Y :=
  ⟨h.bl.trans (hx.below.mono h.bl.size), (hx.below.block _ h.b1.lt).trans h.b1, (hx.below.block _ h.b2.lt).trans h.b2⟩
end Go.Proofs.YtokcgnbjkbhmiaaDoor
namespace Go.Proofs.YtokcgnbjkbhmiaaDoor
open Go.RowKit
set_option maxHeartbeats 4000000
set_option maxRecDepth 100000
set_option linter.unusedSimpArgs false
set_option linter.unusedVariables false
attribute [local go_sem ↓] eql_entE neq_entE
theorem eq_of_take {l l' : List Ent} (hl : l.length = l'.length) (h : l.take l.length = l'.take l.length) : l = l' := by
  rw [List.take_length] at h
  rw [h, hl, List.take_length]
end Go.Proofs.YtokcgnbjkbhmiaaDoor
namespace Go.Proofs.YtokcgnbjkbhmiaaDoor
open Go.RowKit Go.Shelf
set_option maxHeartbeats 4000000
set_option maxRecDepth 100000
set_option linter.unusedSimpArgs false
set_option linter.unusedVariables false
attribute [local go_sem ↓] eql_entE neq_entE

theorem prs_swap : ∀ (a b : List Ent), prs b a = (prs a b).map fun p => (p.2, p.1)
  | [], [] => by rw [prs_nn]; rfl
  | x :: a, [] => by rw [prs_cn, prs_nc, prs_swap a []]; rfl
  | [], y :: b => by rw [prs_cn, prs_nc, prs_swap [] b]; rfl
  | x :: a, y :: b => by
    rcases h1 : Op.bytesLess x.key.toList y.key.toList with _ | _
    · rcases h2 : Op.bytesLess y.key.toList x.key.toList with _ | _
      · rw [prs_eq h1 h2, prs_eq h2 h1, prs_swap a b]; rfl
      · rw [prs_gt h1 h2, prs_lt h2, prs_swap (x :: a) b]; rfl
    · rw [prs_lt h1, prs_gt (bl_asymm h1) h1, prs_swap a (y :: b)]; rfl
termination_by a b => a.length + b.length
theorem prs_self : ∀ (a : List Ent), prs a a = a.map fun x => (x, x)
  | [] => by rw [prs_nn]; rfl
  | x :: a => by rw [prs_eq (bl_irrefl _) (bl_irrefl _), prs_self a]; rfl
theorem prs_right : ∀ (a b : List Ent), ∀ y ∈ b, ∃ p ∈ prs a b, p.2 = y
  | [], [], y, h => by cases h
  | x :: a, [], y, h => by cases h
  | [], y :: b, z, h => by
    rw [prs_nc]
    rcases List.mem_cons.1 h with rfl | h
    · exact ⟨_, List.mem_cons_self, rfl⟩
    · obtain ⟨p, h1, h2⟩ := prs_right [] b z h
      exact ⟨p, List.mem_cons_of_mem _ h1, h2⟩
  | x :: a, y :: b, z, h => by
    rcases h1 : Op.bytesLess x.key.toList y.key.toList with _ | _
    · rcases h2 : Op.bytesLess y.key.toList x.key.toList with _ | _
      · rw [prs_eq h1 h2]
        rcases List.mem_cons.1 h with rfl | h
        · exact ⟨_, List.mem_cons_self, rfl⟩
        · obtain ⟨p, h3, h4⟩ := prs_right a b z h
          exact ⟨p, List.mem_cons_of_mem _ h3, h4⟩
      · rw [prs_gt h1 h2]
        rcases List.mem_cons.1 h with rfl | h
        · exact ⟨_, List.mem_cons_self, rfl⟩
        · obtain ⟨p, h3, h4⟩ := prs_right (x :: a) b z h
          exact ⟨p, List.mem_cons_of_mem _ h3, h4⟩
    · rw [prs_lt h1]
      obtain ⟨p, h3, h4⟩ := prs_right a (y :: b) z h
      exact ⟨p, List.mem_cons_of_mem _ h3, h4⟩
termination_by a b => a.length + b.length
theorem newer_irr (x : Ent) : newer x x = false := by
  unfold newer cmpV cmpI
  simp [firstNZ]
theorem sees_all {A : List Ent} {a b : List Ent} (h : seesP A (prs a b) = none) : (∀ p ∈ prs b a, newer p.2 p.1 = false) ∧ ∀ y ∈ b, findN (nk y) A = some y := by
  have hb : ∀ p ∈ prs a b, badP A p = none := fun p hp => List.findSome?_eq_none_iff.1 h p hp
  constructor
  · intro p hp
    rw [prs_swap a b] at hp
    obtain ⟨q, hq, rfl⟩ := List.mem_map.1 hp
    have := hb q hq
    unfold badP at this
    cases hn : newer q.1 q.2 with
    | false => rfl
    | true => rw [if_pos hn] at this; cases this
  · intro y hy
    obtain ⟨p, hp, rfl⟩ := prs_right a b y hy
    have := hb p hp
    unfold badP at this
    split at this
    · cases this
    · split at this
      · assumption
      · cases this
/-- A slice of lists, in an argument. -/
def SnSl (w : World) (v : Value) (S : List (List Ent)) : Prop := ∃ a c, v = .slice a S.length c ∧ S.length ≤ c ∧ S.length ≤ 4611686018427387904 ∧ (0 < S.length → ∃ b o, a = some ⟨b, o, none⟩ ∧ ∀ i, (h : i < S.length) → ∃ sv, w.cell? ⟨b, o + i, none⟩ = some sv ∧ EntSl w sv S[i])
/-- All that is held may be, and was written. -/
structure LsOK (A : List Ent) (ls : Nat → List Ent) : Prop where
  ok : ∀ i, i < 8 → mChk (ls i) = 0 ∧ (ls i).length ≤ 1073741824
  wr : ∀ i, i < 8 → ∀ x ∈ ls i, findN (nk x) A = some x
theorem seesO_ne {n : Int} {l A : List Ent} {ls : Nat → List Ent} {r : ByteArray × Int} (h : seesO n l A ls = some r) : r.2 ≠ 0 := by
  unfold seesO at h
  split at h
  · cases h; simp
  · split at h
    · cases h; assumption
    · unfold seesP at h
      obtain ⟨p, -, hb⟩ := List.exists_of_findSome?_eq_some h
      unfold badP at hb
      split at hb
      · cases hb; simp
      · split at hb
        · cases hb
        · cases hb; simp
theorem seesO_none {n : Int} {l A : List Ent} {ls : Nat → List Ent} (h : seesO n l A ls = none) : isNd n = true ∧ mChk l = 0 ∧ seesP A (prs (ls n.toNat) l) = none := by
  unfold seesO at h
  split at h
  · cases h
  · rename_i h1
    split at h
    · cases h
    · rename_i h2
      exact ⟨by simpa using h1, by simpa using h2, h⟩
/-- What one look does: the list held now is above the one held before, is what was looked at if nothing was wrong, the one before otherwise, and was written. -/
theorem sees_step {n : Int} {l A : List Ent} {ls : Nat → List Ent} (h : LsOK A ls) (hl : l.length ≤ 1073741824) :
    LsOK A (seesLs n l A ls) ∧ (∀ p ∈ prs (heldL n (seesLs n l A ls)) (heldL n ls), newer p.2 p.1 = false) ∧
      (seesO n l A ls = none → heldL n (seesLs n l A ls) = l ∧ (seesR n l A ls).2 = 0) ∧ (seesO n l A ls ≠ none → heldL n (seesLs n l A ls) = heldL n ls ∧ (seesR n l A ls).2 ≠ 0) := by
  cases ho : seesO n l A ls with
  | none =>
    obtain ⟨h1, h2, h3⟩ := seesO_none ho
    obtain ⟨k, hk, rfl⟩ := isNd_at h1
    rw [Int.toNat_natCast] at h3
    obtain ⟨h4, h5⟩ := sees_all h3
    have e1 : seesLs (k : Int) l A ls = upd ls k l := by unfold seesLs; rw [ho, if_pos rfl, Int.toNat_natCast]
    have e2 : heldL (k : Int) (upd ls k l) = l := by unfold heldL upd; rw [if_pos h1, Int.toNat_natCast, if_pos rfl]
    have e3 : heldL (k : Int) ls = ls k := by unfold heldL; rw [if_pos h1, Int.toNat_natCast]
    rw [e1, e2, e3]
    refine ⟨⟨fun i hi => ?_, fun i hi => ?_⟩, h4, fun _ => ⟨rfl, by unfold seesR; rw [ho]; rfl⟩, fun h => absurd rfl h⟩
    · unfold upd; split
      · exact ⟨h2, hl⟩
      · exact h.ok i hi
    · unfold upd; split
      · exact h5
      · exact h.wr i hi
  | some r =>
    have e1 : seesLs n l A ls = ls := by unfold seesLs; rw [ho, if_neg (by simp)]
    rw [e1, prs_self]
    refine ⟨h, fun p hp => ?_, (fun h => by cases h), fun _ => ⟨rfl, by unfold seesR; rw [ho]; exact seesO_ne ho⟩⟩
    obtain ⟨x, -, rfl⟩ := List.mem_map.1 hp
    exact newer_irr x
end Go.Proofs.YtokcgnbjkbhmiaaDoor
