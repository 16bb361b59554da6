/- A frame, cloned. -/
import Derived.Test.YtiimoaplhhnklaaDoorFG
namespace Go.Proofs.YtiimoaplhhnklaaDoor
open Go.RowKit
set_option maxHeartbeats 4000000
set_option maxRecDepth 100000
set_option linter.unusedSimpArgs false
set_option linter.unusedVariables false
/-- The entries' memory, if there is any, is not that block. -/
def EntOff (S : Nat) (ev : Value) : Prop := ∀ b o n c, ev = .slice (some ⟨b, o, none⟩) n c → 0 < n → b ≠ S
theorem cell_set_ne {w : World} {S j b o : Nat} {u : Value} (h : b ≠ S) : (w.setCell ⟨S, j, none⟩ u).cell? ⟨b, o, none⟩ = w.cell? ⟨b, o, none⟩ := by
  go_simp
theorem cell_set_ne2 {w : World} {S j b o : Nat} {u : Value} (h : o ≠ j) : (w.setCell ⟨S, j, none⟩ u).cell? ⟨b, o, none⟩ = w.cell? ⟨b, o, none⟩ := by
  go_simp
theorem EntAt.set {w : World} {S j b o : Nat} {u : Value} {e : Ent} (h : EntAt w b o e) (hb : b ≠ S) : EntAt (w.setCell ⟨S, j, none⟩ u) b o e :=
  ⟨(cell_set_ne hb).trans h.c0, (cell_set_ne hb).trans h.c1, (cell_set_ne hb).trans h.c2, (cell_set_ne hb).trans h.c3, (cell_set_ne hb).trans h.c4⟩
theorem EntSl.set {w : World} {S j : Nat} {u ev : Value} {l : List Ent} (h : EntSl w ev l) (ho : EntOff S ev) : EntSl (w.setCell ⟨S, j, none⟩ u) ev l := by
  obtain ⟨a, c, rfl, h2, h3, h4⟩ := h
  refine ⟨a, c, rfl, h2, h3, fun hp => ?_⟩
  obtain ⟨b, o, rfl, h6⟩ := h4 hp
  exact ⟨b, o, rfl, fun i hi => (h6 i hi).set (ho b o _ _ rfl hp)⟩
theorem EntSl.off {w : World} {S : Nat} {ev : Value} {l : List Ent} (h : EntSl w ev l) (hS : w.heap.size ≤ S) : EntOff S ev := by
  obtain ⟨a, c, rfl, h2, h3, h4⟩ := h
  intro b o n c' e hn hb
  cases e
  obtain ⟨b', o', e', h6⟩ := h4 hn
  cases e'
  have := cell_lt (h6 0 hn).c0
  omega
theorem PrtAt.set {w : World} {S i j : Nat} {u ev : Value} {p : Prt} (h : PrtAt w S (i * 8) ev p) (hij : i ≠ j) (ho : EntOff S ev) : PrtAt (w.setCell ⟨S, j * 8 + 7, none⟩ u) S (i * 8) ev p :=
  ⟨(cell_set_ne2 (by omega)).trans h.c0, (cell_set_ne2 (by omega)).trans h.c1, (cell_set_ne2 (by omega)).trans h.c2, (cell_set_ne2 (by omega)).trans h.c3, (cell_set_ne2 (by omega)).trans h.c4,
   (cell_set_ne2 (by omega)).trans h.c5, (cell_set_ne2 (by omega)).trans h.c6, (cell_set_ne2 (by omega)).trans h.c7, h.es.set ho⟩
theorem PrtAt.setB {w : World} {S b o j : Nat} {u ev : Value} {p : Prt} (h : PrtAt w b o ev p) (hb : b ≠ S) (ho : EntOff S ev) : PrtAt (w.setCell ⟨S, j, none⟩ u) b o ev p :=
  ⟨(cell_set_ne hb).trans h.c0, (cell_set_ne hb).trans h.c1, (cell_set_ne hb).trans h.c2, (cell_set_ne hb).trans h.c3, (cell_set_ne hb).trans h.c4,
   (cell_set_ne hb).trans h.c5, (cell_set_ne hb).trans h.c6, (cell_set_ne hb).trans h.c7, h.es.set ho⟩
theorem off_new {wr : World} {a9 : Option Addr} {n c9 R : Nat} {P : Nat → Prop} (h92 : 0 < n → ∃ S, a9 = some ⟨S, 0, none⟩ ∧ wr.drew.heap.size ≤ S ∧ P S) (hR : R < wr.heap.size) : EntOff R (.slice a9 n c9) := by
  intro b o n' c e hn hb
  cases e
  obtain ⟨S9, e, hS9', -⟩ := h92 hn
  cases e
  have : wr.heap.size ≤ b := by simpa using hS9'
  omega
/-- A frame's seven cells, and that they may be written. -/
structure FrmAt (w : World) (b : Nat) (f t o li nu tu : Int) (sv : Value) : Prop where
  c0 : w.cell? ⟨b, 0, none⟩ = some (.int .i64 f)
  c1 : w.cell? ⟨b, 1, none⟩ = some (.int .i64 t)
  c2 : w.cell? ⟨b, 2, none⟩ = some (.int .i64 o)
  c3 : w.cell? ⟨b, 3, none⟩ = some (.int .i64 li)
  c4 : w.cell? ⟨b, 4, none⟩ = some (.int .i64 nu)
  c5 : w.cell? ⟨b, 5, none⟩ = some (.int .i64 tu)
  c6 : w.cell? ⟨b, 6, none⟩ = some sv
  q0 : w.frozen? ⟨b, 0, none⟩ = false
  q1 : w.frozen? ⟨b, 1, none⟩ = false
  q2 : w.frozen? ⟨b, 2, none⟩ = false
  q3 : w.frozen? ⟨b, 3, none⟩ = false
  q4 : w.frozen? ⟨b, 4, none⟩ = false
  q5 : w.frozen? ⟨b, 5, none⟩ = false
  q6 : w.frozen? ⟨b, 6, none⟩ = false
theorem frozen_ext' {w w' : World} (hx : Ext w w') {b o : Nat} (hb : b < w.heap.size) (h : w.frozen? ⟨b, o, none⟩ = false) : w'.frozen? ⟨b, o, none⟩ = false := by rw [hx.hf b o hb]; exact h
theorem FrmAt.ext {w w' : World} {b : Nat} {f t o li nu tu : Int} {sv : Value} (h : FrmAt w b f t o li nu tu sv) (hx : Ext w w') : FrmAt w' b f t o li nu tu sv :=
  have hb := cell_lt h.c0
  ⟨cell_ext hx h.c0, cell_ext hx h.c1, cell_ext hx h.c2, cell_ext hx h.c3, cell_ext hx h.c4, cell_ext hx h.c5, cell_ext hx h.c6,
   frozen_ext' hx hb h.q0, frozen_ext' hx hb h.q1, frozen_ext' hx hb h.q2, frozen_ext' hx hb h.q3, frozen_ext' hx hb h.q4, frozen_ext' hx hb h.q5, frozen_ext' hx hb h.q6⟩
theorem frozen_set {w : World} {S j b o : Nat} {u : Value} (h : w.frozen? ⟨b, o, none⟩ = false) : (w.setCell ⟨S, j, none⟩ u).frozen? ⟨b, o, none⟩ = false := by
  go_simp
theorem cell_set_eq {w : World} {b o : Nat} {u v : Value} (h : w.cell? ⟨b, o, none⟩ = some v) : (w.setCell ⟨b, o, none⟩ u).cell? ⟨b, o, none⟩ = some u := by
  have hb := cell_lt h
  go_simp
theorem Ext.setD {w w' : World} (h : Ext w w') {b o : Nat} {u : Value} (hp : w.heap.size ≤ b) : Ext w (w'.setCell ⟨b, o, none⟩ u) := Ext.of (Below.setCell h.below hp u)
theorem FrmAt.set {w : World} {S j b : Nat} {u : Value} {f t o li nu tu : Int} {sv : Value} (h : FrmAt w b f t o li nu tu sv) (hb : b ≠ S) : FrmAt (w.setCell ⟨S, j, none⟩ u) b f t o li nu tu sv :=
  ⟨(cell_set_ne hb).trans h.c0, (cell_set_ne hb).trans h.c1, (cell_set_ne hb).trans h.c2, (cell_set_ne hb).trans h.c3, (cell_set_ne hb).trans h.c4, (cell_set_ne hb).trans h.c5, (cell_set_ne hb).trans h.c6,
   frozen_set h.q0, frozen_set h.q1, frozen_set h.q2, frozen_set h.q3, frozen_set h.q4, frozen_set h.q5, frozen_set h.q6⟩

/-- The entries' memory, if there is any, is not older than that. -/
def EntFrom (B : Nat) (ev : Value) : Prop := ∀ b o n c, ev = .slice (some ⟨b, o, none⟩) n c → 0 < n → B ≤ b
theorem EntFrom.off {B R : Nat} {ev : Value} (h : EntFrom B ev) (hR : R < B) : EntOff R ev := fun b o n c e hn hb => by have := h b o n c e hn; omega
theorem from_new {wr : World} {a9 : Option Addr} {n c9 B : Nat} {P : Nat → Prop} (h92 : 0 < n → ∃ S, a9 = some ⟨S, 0, none⟩ ∧ wr.drew.heap.size ≤ S ∧ P S) (hB : B ≤ wr.heap.size) : EntFrom B (.slice a9 n c9) := by
  intro b o n' c' e hn
  cases e
  obtain ⟨S9, e, hS9', -⟩ := h92 hn
  cases e
  have : wr.heap.size ≤ b := by simpa using hS9'
  omega
/-- Parts in a block of one's own; those behind the first k still have their old entries. -/
def PrtInv (w0 wr : World) (S : Nat) (l : List Prt) (k : Nat) : Prop :=
  ∀ i, (h : i < l.length) → ∃ ev, PrtAt wr S (i * 8) ev l[i] ∧ EntOff S ev ∧ wr.frozen? ⟨S, i * 8 + 7, none⟩ = false ∧ EntOff (w0.heap.size + 1) ev ∧ (i < k → EntFrom w0.heap.size ev ∧ Shp w0.heap.size wr 55 5 ev)

end Go.Proofs.YtiimoaplhhnklaaDoor
