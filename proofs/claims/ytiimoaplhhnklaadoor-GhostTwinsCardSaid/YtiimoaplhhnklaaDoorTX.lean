/- Worlds that differ in some blocks alone. -/
import Derived.Test.YtiimoaplhhnklaaDoorTA
namespace Go.Proofs.YtiimoaplhhnklaaDoor
open Go.RowKit
set_option linter.unusedSimpArgs false
set_option linter.unusedVariables false

/-- Nothing that is there is changed but for some blocks. -/
structure Xl (L : List Nat) (w w' : World) : Prop where
  os : w'.os = w.os
  tape : w'.tape = w.tape
  output : w'.output = w.output
  size : w.heap.size ≤ w'.heap.size
  block : ∀ k, k < w.heap.size → k ∉ L → w'.heap[k]? = w.heap[k]?
namespace Xl
variable {L : List Nat} {w w' w0 : World}
theorem of (h : Ext w w') : Xl L w w' := ⟨h.below.os, h.below.tape, h.below.output, h.below.size, fun k hk _ => h.below.block k hk⟩
theorem ofXt {S : Option Nat} (h : Xt S w w') (hL : ∀ s, S = some s → s ∈ L) : Xl L w w' := ⟨h.os, h.tape, h.output, h.size, fun k hk hn => h.block k hk fun e => hn (hL k e)⟩
theorem refl (w : World) : Xl L w w := of (Ext.refl w)
theorem trans (a b c : World) (h : Xl L a b) (k : Xl L b c) : Xl L a c :=
  ⟨k.os.trans h.os, k.tape.trans h.tape, k.output.trans h.output, Nat.le_trans h.size k.size, fun i hi hn => (k.block i (Nat.lt_of_lt_of_le hi h.size) hn).trans (h.block i hi hn)⟩
theorem set (h : Xl L w w') {G o : Nat} {u : Value} (hG : G ∈ L) : Xl L w (w'.setCell ⟨G, o, none⟩ u) :=
  ⟨h.os, h.tape, h.output, (by simpa [World.setCell] using h.size), fun k hk hn => (Below.heap_setCell _ _ _ _ (by rintro rfl; exact hn hG)).trans (h.block k hk hn)⟩
theorem cell (hb : Xl L w w') {k o : Nat} (hk : k < w.heap.size) (hn : k ∉ L) : w'.cell? ⟨k, o, none⟩ = w.cell? ⟨k, o, none⟩ := by
  unfold World.cell?
  simp only [hb.block k hk hn]
theorem hf (hb : Xl L w w') {k o : Nat} (hk : k < w.heap.size) (hn : k ∉ L) : w'.frozen? ⟨k, o, none⟩ = w.frozen? ⟨k, o, none⟩ := by
  unfold World.frozen?
  simp only [hb.block k hk hn]
theorem ext (h0 : Ext w0 w) (h : Xl L w w') (hL : ∀ k, k ∈ L → w0.heap.size ≤ k) : Ext w0 w' := by
  have hb := h0.below
  exact Ext.of ⟨h.os.trans hb.os, h.tape.trans hb.tape, h.output.trans hb.output, Nat.le_trans hb.size h.size, fun k hk =>
    (h.block k (Nat.lt_of_lt_of_le hk hb.size) (fun e => by have := hL k e; omega)).trans (hb.block k hk)⟩
theorem xt {S : Option Nat} (h : Xl L w w') (hL : ∀ k, k ∈ L → S = some k) : Xt S w w' := ⟨h.os, h.tape, h.output, h.size, fun k hk hn => h.block k hk fun e => hn (hL k e)⟩
theorem xt1 {b : Nat} (h : Xl [b] w w') : Xt (some b) w w' := h.xt (by simp)
end Xl
theorem Xt.none {S : Option Nat} {w w' : World} (h : Xt none w w') : Xt S w w' := Xt.of h.ext
theorem Xt.setAt {w : World} {b o : Nat} {u : Value} : Xt (some b) w (w.setCell ⟨b, o, Option.none⟩ u) :=
  ⟨rfl, rfl, rfl, by simp [World.setCell], fun k hk hn => Below.heap_setCell _ _ _ _ (by rintro rfl; exact hn rfl)⟩
theorem Ext.setX {w w' : World} (h : Ext w w') {b o : Nat} {u : Value} (hp : w.heap.size ≤ b) : Ext w (w'.setCell ⟨b, o, Option.none⟩ u) := Ext.of (Below.setCell h.below hp u)
theorem w64in {n : Int} (h : -9223372036854775808 ≤ n ∧ n ≤ 9223372036854775807) : wrap64 n = n := by unfold wrap64; omega
theorem gen_code {P : Program} {c : Code} {Q : Exit → Act → World → Prop} {a : Act} {w : World} (R : World → Prop) (h0 : R w) (h : ∀ W, R W → c.wp P Q a W) : c.wp P Q a w := h w h0
end Go.Proofs.YtiimoaplhhnklaaDoor
