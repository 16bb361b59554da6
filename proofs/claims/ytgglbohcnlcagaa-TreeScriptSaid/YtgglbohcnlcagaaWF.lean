/- The world of a script: trees and the document's, side by side. -/
import Derived.Test.YtgglbohcnlcagaaWE
namespace Go.Proofs.Ytgglbohcnlcagaa
open Go.RowKit
set_option maxHeartbeats 2000000
set_option maxRecDepth 100000
set_option linter.unusedSimpArgs false
set_option linter.unusedVariables false
theorem en_Tbegun : Enters Try.prog 50 := ⟨_, Try.func50, by kernel_rfl, rfl⟩

/-- A tree, the document's, and what both hold. -/
structure Pr where
  ta : Nat
  rb : Nat
  T : T1
  g : Nat
/-- Pointers behind one another, in a row of the call's own. -/
structure PtrRow (w : World) (g c : Nat) (ty : TypeId) (l : List Nat) : Prop where
  blk : ∃ cur, w.heap[g]? = some (.cells cur ty (0, 0)) ∧ cur.size = c
  cap : l.length ≤ c
  cell : ∀ i, (h : i < l.length) → w.cell? ⟨g, i, none⟩ = some (.pointer (some ⟨l[i], 0, none⟩))
theorem new_cell {w w' : World} {c : Array Value} {t : TypeId} (hx : Ext (w.alloc (.cells c t)) w') {i : Nat} {v : Value} (h : c[i]? = some v) : w'.cell? ⟨w.heap.size, i, none⟩ = some v :=
  cell_ext hx (by rw [World.cell?_alloc_new]; exact h)
theorem new_blk {w w' : World} {c : Array Value} {t : TypeId} (hx : Ext (w.alloc (.cells c t)) w') : w'.heap[w.heap.size]? = some (.cells c t (0, 0)) := by
  rw [hx.below.block _ (by simp)]
  exact heap_alloc_new w _
theorem new_fz {w w' : World} {c : Array Value} {t : TypeId} (hx : Ext (w.alloc (.cells c t)) w') (i : Nat) : w'.frozen? ⟨w.heap.size, i, none⟩ = false := by
  simp [World.frozen?, new_blk hx]
theorem new_ptr {w w' : World} {x : Nat} {t : TypeId} (hx : Ext (w.alloc (.cells #[.pointer (some ⟨x, 0, none⟩)] t)) w') : PtrRow w' w.heap.size 1 t [x] :=
  ⟨⟨_, new_blk hx, rfl⟩, Nat.le_refl _, fun i hi => by
    have : i = 0 := by simpa using hi
    subst this
    exact new_cell hx rfl⟩
theorem begun_any (w : World) :
    Calls Try.prog 50 #[] w fun e w' => (∃ wb ga gb ta rb, e = .returned (.pointer (some ⟨wb, 0, none⟩)) ∧ (w'.cell? ⟨wb, 0, none⟩ = some (.slice (some ⟨ga, 0, none⟩) 1 1) ∧ w'.cell? ⟨wb, 1, none⟩ = some (.slice (some ⟨gb, 0, none⟩) 1 1)) ∧
      (w'.frozen? ⟨wb, 0, none⟩ = false ∧ w'.frozen? ⟨wb, 1, none⟩ = false) ∧ PtrRow w' ga 1 58 [ta] ∧ PtrRow w' gb 1 101 [rb] ∧ MTree w' ta .nil ∧ RTree w' rb [] ∧
      (w.heap.size ≤ ta ∧ ta < ga ∧ ga < rb ∧ rb < gb ∧ gb < wb)) ∧ Ext w w' := by
  go_enter Try.func50, Try.ntmps50
  go_wp2_with fail
  refine (rzero_any w).mono ?_
  rintro e w1 ⟨rfl, hx1⟩
  have HX1 := hid_mk hx1
  clear hx1
  go_wp2_with fail
  refine (new1_any zm 37 #[] w1).mono ?_
  rintro e w2 ⟨ta, rfl, hb, hT, hx⟩
  have HT : Hid (MTree w2 ta .nil) := hid_mk ⟨_, hT, rfl⟩
  have htl := cell_lt hT.at_.c0
  have HB := hid_mk (show w.heap.size ≤ ta ∧ ta < w2.heap.size from ⟨by have := HX1.out.below.size; omega, htl⟩)
  replace HX1 := hid_mk (Ext.trans _ _ _ HX1.out hx)
  clear hT hx hb htl
  go_wp2
  go_ret
  obtain ⟨A, hA⟩ : ∃ A, w2.alloc (.cells #[.pointer (some ⟨ta, 0, none⟩)] 58) = A := ⟨_, rfl⟩
  obtain ⟨B, hB⟩ : ∃ B, A.alloc (.cells #[.slice none 0 0] 150) = B := ⟨_, rfl⟩
  obtain ⟨C, hC⟩ : ∃ C, B.alloc (.cells #[.pointer (some ⟨w2.heap.size + 1, 0, none⟩)] 101) = C := ⟨_, rfl⟩
  obtain ⟨D, hD⟩ : ∃ D, C.alloc (.cells #[.slice (some ⟨w2.heap.size, 0, none⟩) 1 1, .slice (some ⟨w2.heap.size + 1 + 1, 0, none⟩) 1 1] 99) = D := ⟨_, rfl⟩
  have sA : A.heap.size = w2.heap.size + 1 := by rw [← hA]; simp
  have sB : B.heap.size = w2.heap.size + 1 + 1 := by rw [← hB]; simp [sA]
  have sC : C.heap.size = w2.heap.size + 1 + 1 + 1 := by rw [← hC]; simp [sB]
  have xCD : Ext C D := by rw [← hD]; exact (Ext.refl _).alloc _
  have xBC : Ext B C := by rw [← hC]; exact (Ext.refl _).alloc _
  have xAB : Ext A B := by rw [← hB]; exact (Ext.refl _).alloc _
  have x2A : Ext w2 A := by rw [← hA]; exact (Ext.refl _).alloc _
  have xBD := Ext.trans _ _ _ xBC xCD
  have xAD := Ext.trans _ _ _ xAB xBD
  have x2D := Ext.trans _ _ _ x2A xAD
  rw [hA, hB, hC, hD]
  have hd := Ext.refl D
  refine ⟨⟨C.heap.size, w2.heap.size, B.heap.size, ta, A.heap.size, by rw [sC]; rfl, ⟨?_, ?_⟩, ⟨?_, ?_⟩, ?_, ?_, HT.out.ext x2D, ⟨⟨_, ?_, ⟨none, 0, rfl, by simp, by simp, by simp⟩⟩, ?_⟩, HB.out.1, HB.out.2, by omega, by omega, by omega⟩, Ext.trans _ _ _ HX1.out x2D⟩
  · rw [← hD] at hd ⊢; exact new_cell hd rfl
  · rw [sB]; rw [← hD] at hd ⊢; exact new_cell hd rfl
  · rw [← hD] at hd ⊢; exact new_fz hd 0
  · rw [← hD] at hd ⊢; exact new_fz hd 1
  · rw [← hA] at xAD; exact new_ptr xAD
  · rw [← hC] at xCD
    rw [sA]
    exact new_ptr xCD
  · rw [← hB] at xBD; exact new_cell xBD rfl
  · rw [← hB] at xBD; exact new_fz xBD 0
end Go.Proofs.Ytgglbohcnlcagaa
