/- Ghosts: one of the program and one of the document, side by side. -/
import Derived.Test.YtiimoaplhhnklaaHV
namespace Go.Proofs.Ytiimoaplhhnklaa
open Go.RowKit
set_option maxHeartbeats 4000000
set_option maxRecDepth 100000
set_option linter.unusedSimpArgs false
set_option linter.unusedVariables false

def SvAway (L : List Nat) (sv : Nat → Value) : Prop := ∀ i, i < 8 → EAway L (sv i)
def SvNew (z : Nat) (sv sv' : Nat → Value) : Prop := ∀ i, i < 8 → sv' i = sv i ∨ ∀ b o n c, sv' i = .slice (some ⟨b, o, none⟩) n c → 0 < n → z ≤ b
theorem SvNew.away {z : Nat} {sv sv' : Nat → Value} {L : List Nat} (h : SvNew z sv sv') (ha : SvAway L sv) (hL : ∀ x ∈ L, x < z) : SvAway L sv' := fun i hi => by
  rcases h i hi with e | e
  · rw [e]; exact ha i hi
  · intro b o n c e1 hn hm
    have := e b o n c e1 hn
    have := hL b hm
    omega
theorem SvNew.refl (z : Nat) (sv : Nat → Value) : SvNew z sv sv := fun i hi => .inl rfl
theorem SvNew.trans {z z' : Nat} {sv sv' sv'' : Nat → Value} (h : SvNew z sv sv') (k : SvNew z' sv' sv'') (hz : z ≤ z') : SvNew z sv sv'' := fun i hi => by
  rcases k i hi with e | e
  · rcases h i hi with e' | e'
    · exact .inl (e.trans e')
    · right; rw [e]; exact e'
  · right
    intro b o n c e1 hn
    exact Nat.le_trans hz (e b o n c e1 hn)
/-- Slices that lie in a world are away from what is beyond it. -/
theorem sv_more {w : World} {sv : Nat → Value} {ls : Nat → List Ent} {L L' : List Nat} (hs : ∀ i, i < 8 → EntSl w (sv i) (ls i)) (ha : SvAway L sv) (hL : ∀ x ∈ L', x ∈ L ∨ w.heap.size ≤ x) : SvAway L' sv := fun i hi b o n c e hn hm => by
  rcases hL b hm with h | h
  · exact ha i hi b o n c e hn h
  · have := EAway.of_lt (L := [b]) (hs i hi) (by simpa using h) b o n c e hn
    simp at this
def fpG (gb mb rb : Nat) (rv : Value) : List Nat := [gb, mb] ++ rfp rb rv
structure Gd (B : Nat) (w : World) (gb mb : Nat) (sv : Nat → Value) (A : List Ent) (ls : Nat → List Ent) (rb : Nat) (rv : Value) (sr : Nat → Value) (A' : List Ent) (ls' : Nat → List Ent) : Prop where
  g : GhAt w gb mb A sv ls
  d : RhAt B w rb rv A' sr ls'
  ap : ∀ x ∈ [gb, mb], x ∉ rfp rb rv
  ag : SvAway (rfp rb rv) sv
  ad : SvAway [gb, mb] sr
  lo : B ≤ gb ∧ B ≤ mb
section
variable {B : Nat} {w w' : World} {gb mb : Nat} {sv : Nat → Value} {A A1 : List Ent} {ls ls1 : Nat → List Ent} {rb : Nat} {rv : Value} {sr : Nat → Value} {A' A1' : List Ent} {ls' ls1' : Nat → List Ent}
theorem Gd.fp_lt (h : Gd B w gb mb sv A ls rb rv sr A' ls') : ∀ x ∈ fpG gb mb rb rv, B ≤ x ∧ x < w.heap.size := fun x hx => by
  rcases List.mem_append.1 hx with hx | hx
  · simp at hx
    rcases hx with rfl | rfl
    · exact ⟨h.lo.1, h.g.lt.1⟩
    · exact ⟨h.lo.2, h.g.lt.2⟩
  · exact h.d.fp_lt x hx
theorem Gd.av (h : Gd B w gb mb sv A ls rb rv sr A' ls') : SvAway (fpG gb mb rb rv) sv ∧ SvAway (fpG gb mb rb rv) sr :=
  ⟨fun i hi b o n c e hn hm => (List.mem_append.1 hm).elim (h.g.aw i hi b o n c e hn) (h.ag i hi b o n c e hn), fun i hi b o n c e hn hm => (List.mem_append.1 hm).elim (h.ad i hi b o n c e hn) (h.d.aw i hi b o n c e hn)⟩
theorem Gd.away {L : List Nat} (h : Gd B w gb mb sv A ls rb rv sr A' ls') (hx : Xl L w w') (h1 : ∀ x ∈ fpG gb mb rb rv, x ∉ L) (h2 : SvAway L sv) (h3 : SvAway L sr) : Gd B w' gb mb sv A ls rb rv sr A' ls' :=
  ⟨h.g.away hx (h1 _ (by simp [fpG])) (h1 _ (by simp [fpG])) h2, h.d.away hx (fun x hm => h1 x (List.mem_append_right _ hm)) h3, h.ap, h.ag, h.ad, h.lo⟩
theorem Gd.ext (h : Gd B w gb mb sv A ls rb rv sr A' ls') (hx : Ext w w') : Gd B w' gb mb sv A ls rb rv sr A' ls' := h.away (L := []) (Xl.of hx) (by simp) (fun i hi b o n c e hn => by simp) (fun i hi b o n c e hn => by simp)
/-- What a step leaves. -/
def GdPost (B : Nat) (w : World) (gb mb : Nat) (sv : Nat → Value) (rb : Nat) (rv : Value) (sr : Nat → Value) (A1 : List Ent) (ls1 : Nat → List Ent) (A1' : List Ent) (ls1' : Nat → List Ent) (w' : World) : Prop :=
  ∃ sv' rv' sr', Gd B w' gb mb sv' A1 ls1 rb rv' sr' A1' ls1' ∧ Xl (fpG gb mb rb rv) w w' ∧ (∀ x ∈ rfp rb rv', x ∈ rfp rb rv ∨ w.heap.size ≤ x) ∧ SvNew w.heap.size sv sv' ∧ SvNew w.heap.size sr sr'
theorem gdpost_ext (h : Gd B w gb mb sv A ls rb rv sr A' ls') (hx : Ext w w') : GdPost B w gb mb sv rb rv sr A ls A' ls' w' := ⟨sv, rv, sr, h.ext hx, Xl.of hx, fun x hx => .inl hx, SvNew.refl _ _, SvNew.refl _ _⟩
theorem Gd.wg (h : Gd B w gb mb sv A ls rb rv sr A' ls') (hp : GPost w gb mb sv A1 ls1 w') : GdPost B w gb mb sv rb rv sr A1 ls1 A' ls' w' := by
  obtain ⟨sv', h1, h2, h3⟩ := hp
  have hn : SvNew w.heap.size sv sv' := h3
  exact ⟨sv', rv, sr, ⟨h1, h.d.away h2 (fun x hx hm => h.ap x hm hx) h.ad, h.ap, hn.away h.ag (fun x hx => (h.d.fp_lt x hx).2), h.ad, h.lo⟩, h2.mono' (fun k hk => List.mem_append_left _ hk), fun x hx => .inl hx, hn, SvNew.refl _ _⟩
theorem Gd.wg1 (h : Gd B w gb mb sv A ls rb rv sr A' ls') (hp : GPost w gb mb sv A1 ls1 w') : ∃ sv', Gd B w' gb mb sv' A1 ls1 rb rv sr A' ls' ∧ Xl (fpG gb mb rb rv) w w' ∧ SvNew w.heap.size sv sv' := by
  obtain ⟨sv', h1, h2, h3⟩ := hp
  have hn : SvNew w.heap.size sv sv' := h3
  exact ⟨sv', ⟨h1, h.d.away h2 (fun x hx hm => h.ap x hm hx) h.ad, h.ap, hn.away h.ag (fun x hx => (h.d.fp_lt x hx).2), h.ad, h.lo⟩, h2.mono' (fun k hk => List.mem_append_left _ hk), hn⟩
theorem Gd.wd (h : Gd B w gb mb sv A ls rb rv sr A' ls') (hp : RGPost B w rb rv sr A1' ls1' w') : GdPost B w gb mb sv rb rv sr A ls A1' ls1' w' := by
  obtain ⟨rv', sr', h1, h2, h3, h4⟩ := hp
  have hn : SvNew w.heap.size sr sr' := h4
  have hf : ∀ x ∈ rfp rb rv', x ∈ rfp rb rv ∨ w.heap.size ≤ x := fun x hx => by
    simp [rfp] at hx
    rcases hx with rfl | hx
    · exact .inl (by simp [rfp])
    · rcases h3 with e | e
      · rw [e] at hx; exact .inl (by simp [rfp, hx])
      · exact .inr (e x hx)
  refine ⟨sv, rv', sr', ⟨h.g.away h2 (h.ap _ (by simp)) (h.ap _ (by simp)) h.ag, h1, fun x hx hm => ?_, sv_more h.g.sl h.ag hf, hn.away h.ad (fun x hx => ?_), h.lo⟩, h2.mono' (fun k hk => List.mem_append_right _ hk), hf, SvNew.refl _ _, hn⟩
  · rcases hf x hm with e | e
    · exact h.ap x hx e
    · have := (h.fp_lt x (List.mem_append_left _ hx)).2; omega
  · exact (h.fp_lt x (List.mem_append_left _ hx)).2
/-- One thing behind another. -/
theorem GdPost.then {w0 w1 w2 : World} {sv0 sv1 : Nat → Value} {rv0 rv1 : Value} {sr0 sr1 : Nat → Value} {A2 : List Ent} {ls2 : Nat → List Ent} {A2' : List Ent} {ls2' : Nat → List Ent}
    (hX : Xl (fpG gb mb rb rv0) w0 w1) (hF : ∀ x ∈ rfp rb rv1, x ∈ rfp rb rv0 ∨ w0.heap.size ≤ x) (hV : SvNew w0.heap.size sv0 sv1) (hR : SvNew w0.heap.size sr0 sr1) (h2 : GdPost B w1 gb mb sv1 rb rv1 sr1 A2 ls2 A2' ls2' w2) : GdPost B w0 gb mb sv0 rb rv0 sr0 A2 ls2 A2' ls2' w2 := by
  obtain ⟨sv2, rv2, sr2, g, x, f, v, r⟩ := h2
  have hz := hX.size
  refine ⟨sv2, rv2, sr2, g, ?_, fun y hy => ?_, hV.trans v hz, hR.trans r hz⟩
  · refine ⟨x.os.trans hX.os, x.tape.trans hX.tape, x.output.trans hX.output, Nat.le_trans hz x.size, fun k hk hn => (x.block k (by omega) (fun hm => ?_)).trans (hX.block k hk hn)⟩
    rcases List.mem_append.1 hm with hm | hm
    · exact hn (List.mem_append_left _ hm)
    · rcases hF k hm with e | e
      · exact hn (List.mem_append_right _ e)
      · omega
  · rcases f y hy with e | e
    · exact hF y e
    · exact .inr (by omega)
theorem GdPost.cat {w0 w1 w2 : World} {sv0 : Nat → Value} {rv0 : Value} {sr0 : Nat → Value} {A2 : List Ent} {ls2 : Nat → List Ent} {A2' : List Ent} {ls2' : Nat → List Ent}
    (h1 : GdPost B w0 gb mb sv0 rb rv0 sr0 A1 ls1 A1' ls1' w1) (h2 : ∀ sv1 rv1 sr1, Gd B w1 gb mb sv1 A1 ls1 rb rv1 sr1 A1' ls1' → GdPost B w1 gb mb sv1 rb rv1 sr1 A2 ls2 A2' ls2' w2) : GdPost B w0 gb mb sv0 rb rv0 sr0 A2 ls2 A2' ls2' w2 := by
  obtain ⟨sv1, rv1, sr1, g, x, f, v, r⟩ := h1
  exact GdPost.then x f v r (h2 _ _ _ g)
theorem gdpost_from {w0 w1 : World} (hx : Ext w0 w1) (h : GdPost B w1 gb mb sv rb rv sr A1 ls1 A1' ls1' w') : GdPost B w0 gb mb sv rb rv sr A1 ls1 A1' ls1' w' :=
  GdPost.then (Xl.of hx) (fun x hx => .inl hx) (SvNew.refl _ _) (SvNew.refl _ _) h
end
end Go.Proofs.Ytiimoaplhhnklaa
