/- Rows of memory that a call has made for itself: what append does to them. Over any program. -/
import Derived.Laws.AppendOwn
import Derived.Test.YtokcgnbjkbhmiaaDoorReg
namespace Go.Proofs.YtokcgnbjkbhmiaaDoor
open Go.RowKit
set_option linter.unusedSimpArgs false
set_option linter.unusedVariables false

section
variable {w w' : World} {base : Nat} {e e' : TypeId} {size size' n n' : Nat} {v v' : Value} {xs xs' : List Value}
theorem own_form (h : w.ownsRow base e size v n xs) : ∃ a c, v = .slice a n c := by
  rcases h.2 with ⟨rfl, rfl⟩ | ⟨g, cap, cur, rfl, -⟩
  · exact ⟨_, _, rfl⟩
  · exact ⟨_, _, rfl⟩
theorem own_apart (h : w.ownsRow base e size v n xs) (h' : w.ownsRow base e' size' v' n' xs') (he : e ≠ e') : v.ownBlock = none ∨ v.ownBlock ≠ v'.ownBlock := by
  rcases h.2 with ⟨rfl, -⟩ | ⟨g, cap, cur, rfl, -, hg, -⟩
  · left; rfl
  · right
    rcases h'.2 with ⟨rfl, -⟩ | ⟨g', cap', cur', rfl, -, hg', -⟩
    · simp [Value.ownBlock]
    · simp only [Value.ownBlock, ne_eq, Option.some.injEq]
      intro hh
      subst hh
      rw [hg] at hg'
      cases hg'
      exact he rfl
theorem ext_grown {w0 : World} (h : Ext w0 w) (hg : w.grownBy w' v.ownBlock) (ho : w.ownsRow base e size v n xs) (hb : w0.heap.size ≤ base) : Ext w0 w' :=
  Ext.of (h.below.grown hg h.below.size (fun k hk => Nat.le_trans hb (ho.lt k hk).1))
theorem grown_of_ext (h : Ext w w') (row : Option Nat) : w.grownBy w' row := ⟨h.below.os, h.below.tape, h.below.output, h.below.size, fun k hk _ => h.below.block k hk⟩
theorem own_ext (h : w.ownsRow base e size v n xs) (hx : Ext w w') : w'.ownsRow base e size v n xs := h.kept (grown_of_ext hx none) (by cases v.ownBlock <;> simp)
theorem own_cell (h : w.ownsRow base e size v n xs) (hn : 0 < n) : ∃ g c, v = .slice (some ⟨g, 0, none⟩) n c ∧ ∀ j u, xs[j]? = some u → w.cell? ⟨g, j, none⟩ = some u := by
  rcases h.2 with ⟨rfl, rfl⟩ | ⟨g, cap, cur, rfl, -⟩
  · omega
  · refine ⟨g, cap, rfl, fun j u hu => ?_⟩
    have := h.cells (g := g) rfl j u hu
    unfold Addr.add at this
    split at this
    · rename_i hj; subst hj; exact this
    · simpa using this
end
/-- Lists of blocks of one length: the cells of one. -/
theorem flat_get {α : Type} (f : α → List Value) (k : Nat) (hk : 0 < k) (hf : ∀ a, (f a).length = k) : ∀ (l : List α) (i : Nat) (h : i < l.length) (j : Nat), j < k → (l.flatMap f)[i * k + j]? = (f l[i])[j]?
  | [], i, h, _, _ => by simp at h
  | a :: l, 0, _, j, hj => by
    rw [List.flatMap_cons, Nat.zero_mul, Nat.zero_add, List.getElem?_append_left (by rw [hf]; exact hj)]
    rfl
  | a :: l, i + 1, h, j, hj => by
    have ih := flat_get f k hk hf l i (by simpa using h) j hj
    rw [List.flatMap_cons, List.getElem?_append_right (by rw [hf, Nat.add_mul]; omega), hf]
    have e : (i + 1) * k + j - k = i * k + j := by rw [Nat.add_mul]; omega
    rw [e, ih]
    rfl
end Go.Proofs.YtokcgnbjkbhmiaaDoor
