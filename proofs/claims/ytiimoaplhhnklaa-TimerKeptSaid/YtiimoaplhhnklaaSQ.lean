/- Timers: one step of a pair. -/
import Derived.Test.YtiimoaplhhnklaaSP
namespace Go.Proofs.Ytiimoaplhhnklaa
open Go.RowKit
set_option maxHeartbeats 4000000
set_option maxRecDepth 100000
set_option linter.unusedSimpArgs false
set_option linter.unusedVariables false
attribute [-go_sem] Builtin.append_
attribute [local go_sem ↓] neq_nm eql_nm

structure TOp where
  k : Int
  n : Nm
  t : Int
  stop : Int
  snd : Bool
instance : Inhabited TOp := ⟨⟨0, (0, 0, 0), 0, 0, false⟩⟩
abbrev opV (o : TOp) : Value := .agg #[.int .i64 o.k, .int .i64 o.n.1, .int .i64 o.n.2.1, .int .i64 o.n.2.2, .int .i64 o.t, .int .i64 o.stop, .bool o.snd]
def stepL (o : TOp) (l : List Al) : List Al := if o.k = 0 then setL o.n o.t l else if o.k = 1 then del o.n l else l
/-- The two of a pair, for a while not of the same list. -/
structure Pr (B : Nat) (w : World) (tb mb : Nat) (v : Value) (rb : Nat) (rv : Value) (la lb : List Al) : Prop where
  t : TimerAt B w tb mb v la
  d : RTm B w rb rv lb
  ap : ∀ x ∈ fp tb mb v, x ∉ fpR rb rv
theorem Pr.ext {B : Nat} {w w' : World} {tb mb : Nat} {v : Value} {rb : Nat} {rv : Value} {la lb : List Al} (h : Pr B w tb mb v rb rv la lb) (hx : Ext w w') : Pr B w' tb mb v rb rv la lb := ⟨h.t.ext hx, h.d.ext hx, h.ap⟩
/-- What a pair lies in. -/
def fpP (tb mb : Nat) (v : Value) (rb : Nat) (rv : Value) : List Nat := fp tb mb v ++ fpR rb rv
theorem Pr.fp_lt {B : Nat} {w : World} {tb mb : Nat} {v : Value} {rb : Nat} {rv : Value} {la lb : List Al} (h : Pr B w tb mb v rb rv la lb) : ∀ x ∈ fpP tb mb v rb rv, B ≤ x ∧ x < w.heap.size := fun x hx => by
  rcases List.mem_append.1 hx with hx | hx
  · exact h.t.fp_lt x hx
  · exact h.d.fp_lt x hx
theorem Pr.wt {B : Nat} {w w' : World} {tb mb : Nat} {v : Value} {rb : Nat} {rv : Value} {la la' lb : List Al} (h : Pr B w tb mb v rb rv la lb) (hp : TPost B w tb mb v la' w') :
    ∃ v', Pr B w' tb mb v' rb rv la' lb ∧ Xl (fpP tb mb v rb rv) w w' ∧ ∀ x ∈ fpP tb mb v' rb rv, x ∈ fpP tb mb v rb rv ∨ w.heap.size ≤ x := by
  obtain ⟨v', h1, h2, h3⟩ := hp
  have hf : ∀ x ∈ fp tb mb v', x ∈ fp tb mb v ∨ w.heap.size ≤ x := fun x hx => by
    simp [fp] at hx
    rcases hx with rfl | rfl | hx
    · exact .inl (by simp [fp])
    · exact .inl (by simp [fp])
    · rcases h3 with e | ⟨g, e1, e2⟩
      · rw [e] at hx; exact .inl (by simp [fp, hx])
      · rw [e2] at hx; simp at hx; exact .inr (by omega)
  refine ⟨v', ⟨h1, h.d.away h2 (fun x hx hy => h.ap x hy hx), fun x hx hy => ?_⟩, h2.mono' (fun k hk => List.mem_append_left _ hk), fun x hx => ?_⟩
  · rcases hf x hx with h9 | h9
    · exact h.ap x h9 hy
    · have := (h.d.fp_lt x hy).2; omega
  · rcases List.mem_append.1 hx with hx | hx
    · exact (hf x hx).imp (fun h => List.mem_append_left _ h) id
    · exact .inl (List.mem_append_right _ hx)
theorem Pr.wd {B : Nat} {w w' : World} {tb mb : Nat} {v : Value} {rb : Nat} {rv : Value} {la lb lb' : List Al} (h : Pr B w tb mb v rb rv la lb) (hp : RPost B w rb rv lb' w') :
    ∃ rv', Pr B w' tb mb v rb rv' la lb' ∧ Xl (fpP tb mb v rb rv) w w' ∧ ∀ x ∈ fpP tb mb v rb rv', x ∈ fpP tb mb v rb rv ∨ w.heap.size ≤ x := by
  obtain ⟨v', h1, h2, h3⟩ := hp
  have hf : ∀ x ∈ fpR rb v', x ∈ fpR rb rv ∨ w.heap.size ≤ x := fun x hx => by
    simp [fpR] at hx
    rcases hx with rfl | hx
    · exact .inl (by simp [fpR])
    · rcases h3 with e | h9
      · rw [e] at hx; exact .inl (by simp [fpR, hx])
      · exact .inr (h9 x hx)
  have h2 := h2.mono' (L' := fpR rb rv) (fun k hk => by simp at hk; subst hk; simp [fpR])
  refine ⟨v', ⟨h.t.away h2 (fun x hx hy => h.ap x hx hy), h1, fun x hx hy => ?_⟩, h2.mono' (fun k hk => List.mem_append_right _ hk), fun x hx => ?_⟩
  · rcases hf x hy with h9 | h9
    · exact h.ap x hx h9
    · have := (h.t.fp_lt x hx).2; omega
  · rcases List.mem_append.1 hx with hx | hx
    · exact .inl (List.mem_append_left _ hx)
    · exact (hf x hx).imp (fun h => List.mem_append_right _ h) id
def PPost (B : Nat) (w : World) (tb mb : Nat) (v : Value) (rb : Nat) (rv : Value) (l' : List Al) (w' : World) : Prop :=
  ∃ v' rv', Pr B w' tb mb v' rb rv' l' l' ∧ Xl (fpP tb mb v rb rv) w w' ∧ ∀ x ∈ fpP tb mb v' rb rv', x ∈ fpP tb mb v rb rv ∨ w.heap.size ≤ x
theorem ppost_ext {B : Nat} {w w' : World} {tb mb : Nat} {v : Value} {rb : Nat} {rv : Value} {l : List Al} (h : Pr B w tb mb v rb rv l l) (hx : Ext w w') : PPost B w tb mb v rb rv l w' :=
  ⟨v, rv, h.ext hx, Xl.of hx, fun x hx => .inl hx⟩
/-- Both have been asked, one behind the other. -/
theorem ppost_both {B : Nat} {w w0 w1 w2 : World} {tb mb : Nat} {v v1 : Value} {rb : Nat} {rv rv1 : Value} {la lb : List Al} (hx0 : Ext w w0)
    (h1 : Xl (fpP tb mb v rb rv) w0 w1 ∧ ∀ x ∈ fpP tb mb v1 rb rv, x ∈ fpP tb mb v rb rv ∨ w0.heap.size ≤ x) (h : Pr B w tb mb v rb rv la lb) (l' : List Al)
    (h2 : Pr B w2 tb mb v1 rb rv1 l' l' ∧ Xl (fpP tb mb v1 rb rv) w1 w2 ∧ ∀ x ∈ fpP tb mb v1 rb rv1, x ∈ fpP tb mb v1 rb rv ∨ w1.heap.size ≤ x) : PPost B w tb mb v rb rv l' w2 := by
  obtain ⟨h1a, h1b⟩ := h1
  obtain ⟨h2a, h2b, h2c⟩ := h2
  have hz := hx0.below.size
  have hz1 := h1a.size
  refine ⟨v1, rv1, h2a, ?_, fun x hx => ?_⟩
  · have hA : Xl (fpP tb mb v rb rv) w w1 := Xl.trans _ _ _ (Xl.of hx0) h1a
    exact ⟨h2b.os.trans hA.os, h2b.tape.trans hA.tape, h2b.output.trans hA.output, Nat.le_trans hA.size h2b.size, fun k hk hn => (h2b.block k (by have := hA.size; omega) (fun h9 => (h1b k h9).elim hn (by omega))).trans (hA.block k hk hn)⟩
  · rcases h2c x hx with h9 | h9
    · rcases h1b x h9 with h8 | h8
      · exact .inl h8
      · exact .inr (by omega)
    · exact .inr (by omega)
end Go.Proofs.Ytiimoaplhhnklaa
