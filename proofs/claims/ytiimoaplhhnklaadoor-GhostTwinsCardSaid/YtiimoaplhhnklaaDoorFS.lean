/- What is lent: a frame's clone whose lists have two marks behind their ends. -/
import Derived.Test.YtiimoaplhhnklaaDoorFR
namespace Go.Proofs.YtiimoaplhhnklaaDoor
open Go.RowKit
set_option maxHeartbeats 8000000
set_option maxRecDepth 100000
set_option linter.unusedSimpArgs false
set_option linter.unusedVariables false
attribute [-go_sem] Builtin.append_

def entMark : Ent := ⟨⟨#[109, 97, 114, 107]⟩, 0, 0, ⟨#[]⟩, false⟩
def entBehind : Ent := ⟨⟨#[98, 101, 104, 105, 110, 100]⟩, 0, 0, ⟨#[]⟩, false⟩
def marks : List Ent := [entMark, entBehind]
def mkP (p : Prt) : Prt := { p with ents := p.ents ++ marks }
def prt77 : Prt := ⟨77, ⟨#[]⟩, ⟨#[]⟩, false, 0, 0, 0, []⟩
def prt78 : Prt := ⟨78, ⟨#[]⟩, ⟨#[]⟩, false, 0, 0, 0, []⟩

theorem flat_set {α : Type} (f : α → List Value) (k : Nat) (hf : ∀ a, (f a).length = k) {j : Nat} (hj : j < k) (u : Value) (a' : α) : ∀ (l : List α) (i : Nat) (h : i < l.length), f a' = (f l[i]).set j u → (l.flatMap f).set (i * k + j) u = (l.set i a').flatMap f
  | [], i, h, _ => by simp at h
  | a :: l, 0, _, e => by
    rw [List.flatMap_cons, Nat.zero_mul, Nat.zero_add, List.set_append_left _ _ (by rw [hf]; exact hj), List.set_cons_zero, List.flatMap_cons, e]
    rfl
  | a :: l, i + 1, h, e => by
    rw [List.flatMap_cons, List.set_append_right _ _ (by rw [hf, Nat.add_mul]; omega), hf, List.set_cons_succ, List.flatMap_cons]
    have e2 : (i + 1) * k + j - k = i * k + j := by rw [Nat.add_mul]; omega
    rw [e2, flat_set f k hf hj u a' l i (by simpa using h) e]
theorem heap_setCell_same {w : World} {S j : Nat} {u : Value} {cur : Array Value} {e : TypeId} (h : w.heap[S]? = some (.cells cur e (0, 0))) :
    (w.setCell ⟨S, j, none⟩ u).heap[S]? = some (.cells (cur.setIfInBounds j u) e (0, 0)) := by
  obtain ⟨hlt, hk⟩ := Array.getElem?_eq_some_iff.1 h
  show (w.heap.modify S _)[S]? = _
  rw [Array.getElem?_eq_getElem (by rw [Array.size_modify]; exact hlt), Array.getElem_modify_self, hk]
  rfl
theorem row_set {w : World} {B S c n i size : Nat} {e : TypeId} {xs : List Value} {u : Value} (h : w.ownsRow B e size (.slice (some ⟨S, 0, none⟩) n c) n xs) (hi : i < n * size) :
    (w.setCell ⟨S, i, none⟩ u).ownsRow B e size (.slice (some ⟨S, 0, none⟩) n c) n (xs.set i u) := by
  refine ⟨by rw [List.length_set]; exact h.1, ?_⟩
  rcases h.2 with ⟨h1, -⟩ | ⟨g, cap, cur, h1, h2, h3, h4, h5, h6, h7⟩
  · cases h1
  · cases h1
    refine .inr ⟨S, c, _, rfl, h2, heap_setCell_same h3, h4, h5, by simpa using h6, ?_⟩
    rw [← h7, Array.toList_setIfInBounds, List.take_set]
theorem own_ne_cells {w : World} {B G : Nat} {e t : TypeId} {size n : Nat} {v : Value} {xs : List Value} {cur : Array Value} {z : Nat × Nat} (h : w.ownsRow B e size v n xs) (hG : w.heap[G]? = some (.cells cur t z)) (hne : e ≠ t) : v.ownBlock ≠ some G := by
  rcases h.2 with ⟨rfl, -⟩ | ⟨g, cap, cur', rfl, -, hg, -⟩
  · simp [Value.ownBlock]
  · simp only [Value.ownBlock, ne_eq, Option.some.injEq]
    intro hh
    subst hh
    rw [hg] at hG
    cases hG
    exact hne rfl

/-- What the marks' loop has done when k parts are over. -/
def marked (l : List Prt) (k : Nat) : List Prt := (l.take k).map mkP ++ l.drop k
theorem marked_get (l : List Prt) (k : Nat) (h : k < l.length) : (marked l k)[k]? = some l[k] := by
  unfold marked
  rw [List.getElem?_append_right (by simp; omega), List.length_map, List.length_take, Nat.min_eq_left (by omega), Nat.sub_self, List.drop_eq_getElem_cons h]
  rfl
theorem marked_succ (l : List Prt) (k : Nat) (h : k < l.length) : (marked l k).set k (mkP l[k]) = marked l (k + 1) := by
  unfold marked
  rw [List.set_append_right _ _ (by simp; omega), List.length_map, List.length_take, Nat.min_eq_left (by omega), Nat.sub_self, List.drop_eq_getElem_cons h, List.set_cons_zero,
    List.take_succ_eq_append_getElem h, List.map_append, List.append_assoc]
  rfl

end Go.Proofs.YtiimoaplhhnklaaDoor
