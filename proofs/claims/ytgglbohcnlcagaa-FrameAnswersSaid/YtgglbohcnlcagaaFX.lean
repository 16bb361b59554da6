/- FrameAnswers: the answer to a frame, and the answer to that; what is handed in is neither changed nor shared. -/
import Derived.Test.YtgglbohcnlcagaaFT
import Derived.Test.YtgglbohcnlcagaaFU
import Derived.Test.YtgglbohcnlcagaaFV
import Derived.Test.YtgglbohcnlcagaaFW
import Derived.Deep.Cut
namespace Go.Proofs.Ytgglbohcnlcagaa
open Go.RowKit
set_option maxHeartbeats 8000000
set_option maxRecDepth 100000
set_option linter.unusedSimpArgs false
set_option linter.unusedVariables false
theorem en_FrameAnswers : Enters Try.prog 11 := ⟨_, Try.func11, by kernel_rfl, rfl⟩

theorem cell_blk {w w' : World} {b o : Nat} (h : w'.heap[b]? = w.heap[b]?) : w'.cell? ⟨b, o, none⟩ = w.cell? ⟨b, o, none⟩ := World.cell?_of_block h
theorem LentAt.blk {B M : Nat} {w w' : World} {S c k : Nat} {l : List Prt} (h : LentAt B M w S c k l) (hb : ∀ b, B ≤ b → b < M → b < w.heap.size → w'.heap[b]? = w.heap[b]?) : LentAt B M w' S c k l := by
  obtain ⟨s1, s2⟩ := h.base
  have hS := hb S s1 s2 (cell_lt h.m77)
  refine ⟨h.base, h.cap, fun i hi => ?_, (cell_blk hS).trans h.m77, (cell_blk hS).trans h.m78⟩
  obtain ⟨E, ce, h1, h2, h3, h4, h5, h6⟩ := h.parts i hi
  have h0 := h6 0 (by rw [List.length_append]; simp [marks])
  have hE := hb E h1.1 h1.2 (cell_lt h0.c0)
  refine ⟨E, ce, h1, h2, h3, ⟨(cell_blk hS).trans h4.c0, (cell_blk hS).trans h4.c1, (cell_blk hS).trans h4.c2, (cell_blk hS).trans h4.c3, (cell_blk hS).trans h4.c4, (cell_blk hS).trans h4.c5, (cell_blk hS).trans h4.c6, (cell_blk hS).trans h4.c7⟩,
    (World.frozen?_of_block hS).trans h5, fun j hj => ?_⟩
  have hA := h6 j hj
  exact ⟨(cell_blk hE).trans hA.c0, (cell_blk hE).trans hA.c1, (cell_blk hE).trans hA.c2, (cell_blk hE).trans hA.c3, (cell_blk hE).trans hA.c4⟩
theorem LentAt.grownN {B M : Nat} {w w' : World} {S c k R : Nat} {l : List Prt} (h : LentAt B M w S c k l) (hg : w.grownBy w' (some R)) (hR : R < B ∨ M ≤ R) : LentAt B M w' S c k l :=
  h.blk fun b h1 h2 h3 => hg.block b h3 (by simp; omega)
theorem LentAt.below {B M N : Nat} {w w' : World} {S c k : Nat} {l : List Prt} (h : LentAt B M w S c k l) (hb : Below N w w') (hN : M ≤ N) : LentAt B M w' S c k l :=
  h.blk fun b _ h2 _ => hb.block b (by omega)
theorem grown_unD {w w' : World} {r : Option Nat} (h : w.drew.grownBy w' r) : w.grownBy w' r := ⟨h.os, h.tape, h.output, h.size, h.block⟩
/-- Below B only those two blocks may have changed. -/
def NotS (B S1 S2 : Nat) (w w' : World) : Prop := w.heap.size ≤ w'.heap.size ∧ ∀ k, k < B → k < w.heap.size → k ≠ S1 → k ≠ S2 → w'.heap[k]? = w.heap[k]?
theorem notS_refl (B S1 S2 : Nat) (w : World) : NotS B S1 S2 w w := ⟨Nat.le_refl _, fun _ _ _ _ _ => rfl⟩
theorem notS_trans (B S1 S2 : Nat) (a b c : World) (h : NotS B S1 S2 a b) (k : NotS B S1 S2 b c) : NotS B S1 S2 a c :=
  ⟨Nat.le_trans h.1 k.1, fun i h1 h2 h3 h4 => (k.2 i h1 (Nat.lt_of_lt_of_le h2 h.1) h3 h4).trans (h.2 i h1 h2 h3 h4)⟩
theorem notS_grown {B S1 S2 R : Nat} {w w' : World} (hg : w.grownBy w' (some R)) (hR : R = S1 ∨ R = S2) : NotS B S1 S2 w w' :=
  ⟨hg.size, fun k h1 h2 h3 h4 => hg.block k h2 (by simp; rcases hR with h | h <;> omega)⟩
theorem notS_ext {B S1 S2 : Nat} {w w' : World} (hx : Ext w w') : NotS B S1 S2 w w' := ⟨hx.below.size, fun k _ h2 _ _ => hx.below.block k h2⟩
theorem notS_set {B S1 S2 G j : Nat} {u : Value} {w w' : World} (h : NotS B S1 S2 w w') (hG : B ≤ G) : NotS B S1 S2 w (w'.setCell ⟨G, j, none⟩ u) :=
  notS_trans _ _ _ _ _ _ h ⟨(grown_set _ _ _ _).size, fun k h1 h2 _ _ => (grown_set w' G j u).block k h2 (by simp; omega)⟩
theorem BoxF.notS {B S1 S2 : Nat} {w w' : World} {G : Nat} {f t o li nu tu : Int} {sv : Value} (h : BoxF w G f t o li nu tu sv) (hn : NotS B S1 S2 w w') (h1 : G < B) (h2 : G ≠ S1) (h3 : G ≠ S2) : BoxF w' G f t o li nu tu sv :=
  (hn.2 G h1 h.lt h2 h3).trans h
theorem BoxF.below {N : Nat} {w w' : World} {G : Nat} {f t o li nu tu : Int} {sv : Value} (h : BoxF w G f t o li nu tu sv) (hb : Below N w w') (hN : G < N) : BoxF w' G f t o li nu tu sv := (hb.block G hN).trans h
theorem BoxF.all {w : World} {G : Nat} {f t o li nu tu : Int} {sv : Value} (h : BoxF w G f t o li nu tu sv) (f' t' o' li' nu' tu' : Int) (sv' : Value) :
    BoxF (((((((w.setCell ⟨G, 0, none⟩ (.int .i64 f')).setCell ⟨G, 1, none⟩ (.int .i64 t')).setCell ⟨G, 2, none⟩ (.int .i64 o')).setCell ⟨G, 3, none⟩ (.int .i64 li')).setCell ⟨G, 4, none⟩ (.int .i64 nu')).setCell ⟨G, 5, none⟩ (.int .i64 tu')).setCell ⟨G, 6, none⟩ sv') G f' t' o' li' nu' tu' sv' :=
  heap_setCell_same (heap_setCell_same (heap_setCell_same (heap_setCell_same (heap_setCell_same (heap_setCell_same (heap_setCell_same h))))))
theorem PrtOwn.setG {B R j : Nat} {w : World} {u v : Value} {l : List Prt} {cur : Array Value} (h : PrtOwn B w v l) (hG : w.heap[R]? = some (.cells cur 26 (0, 0))) : PrtOwn B (w.setCell ⟨R, j, none⟩ u) v l := by
  obtain ⟨a, c, h1, h2, h3, hs, h4⟩ := h
  refine ⟨a, c, h1, h2, h3, hs.set, fun hp => ?_⟩
  obtain ⟨S, h5, h8, h6⟩ := h4 hp
  have hne : S ≠ R := by
    rcases hs with ⟨a', n', c', k1, k2, k3 | ⟨S', cur', k3, k4, k5, -⟩⟩
    · cases k1; omega
    · cases k1
      rw [h5] at k3
      cases k3
      intro e
      subst e
      rw [hG] at k5
      cases k5
  refine ⟨S, h5, h8, fun i hi => ?_⟩
  obtain ⟨ev, h7, h9, h10⟩ := h6 i hi
  refine ⟨ev, h7.setB hne ?_, h9, h10.set⟩
  intro b o n c e hn
  subst e
  rcases h10 with ⟨a', n', c', k1, k2, k3 | ⟨S', cur', k3, k4, k5, -⟩⟩
  · cases k1; omega
  · cases k1
    cases k3
    intro e
    subst e
    rw [hG] at k5
    cases k5
end Go.Proofs.Ytgglbohcnlcagaa
