/- Ranges over functions that range over functions themselves: what such a function does, and the statement that ranges over it (the fence wide). Over any program. -/
import Derived.Test.YtokcgnbjkbhmiaaDoorInM
import Derived.Test.YtokcgnbjkbhmiaaDoorMHB
import Derived.RangeFuncNested
import Derived.RangeFuncCalls
namespace Go.Proofs.YtokcgnbjkbhmiaaDoor
open Go.RowKit
set_option linter.unusedSimpArgs false
set_option linter.unusedVariables false

section
variable {α : Type} {P : Program}
/-- What lay below a bound lies as it lay, but for some blocks; and what is no row of cells lies as it lay from the bound on. -/
structure EN (B : Nat) (L : List Nat) (W W' : World) : Prop where
  bx : BelowX B L W W'
  kf : KeepsFrom B W W'
namespace EN
variable {B : Nat} {L : List Nat} {W W' W2 : World}
theorem refl : EN B L W W := ⟨.refl, KeepsFrom.refl _ _⟩
theorem trans (h : EN B L W W') (k : EN B L W' W2) : EN B L W W2 := ⟨h.bx.trans k.bx, h.kf.trans k.kf⟩
theorem ext (h : Ext W W') (hB : B ≤ W.heap.size) : EN B L W W' := ⟨.ofXl (Xl.of h) hB, keepsFrom_ext h⟩
theorem mono {b : Nat} (h : EN B L W W') (hb : B ≤ b) : KeepsFrom b W W' := ⟨h.kf.size, fun k o h1 => h.kf.same k o (by omega)⟩
theorem set (h : EN B L W W') {b o : Nat} {u : Value} (hb : B ≤ b ∨ b ∈ L) : EN B L W (W'.setCell ⟨b, o, none⟩ u) := ⟨h.bx.setCell hb, h.kf.trans ((KeepsOthers.setCell _ _ _).from _)⟩
end EN
theorem kf_mono {b c : Nat} {W W' : World} (h : KeepsFrom b W W') (hb : b ≤ c) : KeepsFrom c W W' := ⟨h.size, fun k o h1 => h.same k o (by omega)⟩
/-- What the body of a round leaves: g is a block of its own (made by an earlier round), b: where the iterator's own blocks begin. -/
structure YR (B : Nat) (L : List Nat) (b g : Nat) (W : World) (g' : Nat) (W' : World) : Prop where
  en : EN B L W W'
  gh : g' = g ∨ W.heap.size ≤ g'
  fr : ∀ k, b ≤ k → k < W.heap.size → k ≠ g → W'.heap[k]? = W.heap[k]?
namespace YR
variable {B : Nat} {L : List Nat} {b g g' g2 : Nat} {W W' W2 : World}
theorem ext (h : Ext W W') (hB : B ≤ W.heap.size) : YR B L b g W g W' := ⟨EN.ext h hB, .inl rfl, fun k _ hk _ => h.below.block k hk⟩
theorem trans (h : YR B L b g W g' W') (k : YR B L b g' W' g2 W2) : YR B L b g W g2 W2 := by
  have hz := h.en.bx.size
  refine ⟨h.en.trans k.en, ?_, fun i hb hi hn => ?_⟩
  · rcases k.gh with e | e
    · rw [e]; exact h.gh
    · exact .inr (by omega)
  · refine (k.fr i hb (by omega) ?_).trans (h.fr i hb hi hn)
    rcases h.gh with e | e
    · rw [e]; exact hn
    · omega
theorem mono {c : Nat} (h : YR B L b g W g' W') (hc : b ≤ c) : YR B L c g W g' W' := ⟨h.en, h.gh, fun k hk => h.fr k (by omega)⟩
end YR
/-- What the body of a range does with an element, as the iterator meets it. -/
abbrev YieldsN (P : Program) (encs : α → Array Value) (B : Nat) (L : List Nat) (b : Nat) (N : Nat) (lp : Nat) (J : List α × Nat → World → Prop) (Jx : List α → World → Prop) : Prop :=
  ∀ pre g x W, J (pre, g) W → pre.length < N → YieldAt Fence.wide 0 P lp (encs x) W fun e W' => ∃ t, e = .returned (.bool t) ∧ (t = true → ∃ g', J (pre ++ [x], g') W' ∧ YR B L b g W g' W') ∧ (t = false → Jx (pre ++ [x]) W' ∧ KeepsFrom b W W')
/-- An iterator, called here, hands the elements of a list to the body, from the front on, till the body has enough. -/
def SeqN (P : Program) (g : Nat) (lb : Array Value) (encs : α → Array Value) (B : Nat) (L : List Nat) (xs : List α) (W : World) : Prop :=
  ∀ (lp g0 : Nat) (J : List α × Nat → World → Prop) (Jx : List α → World → Prop), OwnFrom W.heap.size J → OwnFrom W.heap.size Jx → g0 < W.heap.size → YieldsN P encs B L W.heap.size xs.length lp J Jx → J ([], g0) W →
    CallsIn Fence.wide 0 P g (#[.func (.yield lp) #[] #[]] ++ lb) W fun e W' => (∃ v, e = .returned v) ∧ ((∃ g', J (xs, g') W') ∨ ∃ a c, xs = a ++ c ∧ Jx a W')
theorem yieldAt_wide {m k : Nat} {lp : Nat} {args : Array Value} {W : World} {R : Ending → World → Prop} (h : YieldAt Fence.wide m P lp args W R) : YieldAt Fence.wide k P lp args W R := by
  obtain ⟨fn, tmps, asg, body, h1, h2, h3⟩ := h
  exact ⟨fn, tmps, asg, body, h1, h2, fun c cs _ => h3 c cs (by simp [Fence.room, Fence.wide])⟩
theorem callsIn_wide_any {m k : Nat} {f : FuncId} {args : Array Value} {W : World} {R : Ending → World → Prop} (h : CallsIn Fence.wide m P f args W R) : CallsIn Fence.wide k P f args W R := callsIn_wide.2 (callsIn_wide.1 h)
/-- What is told of a loop's two blocks. -/
structure LoopAt (b : Nat) (r : Loop) (W : World) : Prop where
  rcd : W.heap[b + 1]? = some (.loop r)
  dfr : W.heap[b]? = some (.deferred (some []))
namespace LoopAt
variable {b : Nat} {r r' : Loop} {W W' : World}
theorem grown (h : LoopAt b r W) {row : Option Nat} (hg : W.grownBy W' row) (hr : ∀ k, row = some k → b + 2 ≤ k) : LoopAt b r W' :=
  ⟨(hg.block _ (Array.getElem?_eq_some_iff.1 h.rcd).1 (fun e => by have := hr _ e.symm; omega)).trans h.rcd, (hg.block _ (Array.getElem?_eq_some_iff.1 h.dfr).1 (fun e => by have := hr _ e.symm; omega)).trans h.dfr⟩
theorem kept (h : LoopAt b r W) (hk : KeepsFrom b W W') : LoopAt b r W' := ⟨hk.same _ _ (by omega) h.rcd rfl, hk.same _ _ (Nat.le_refl _) h.dfr rfl⟩
theorem put (h : LoopAt b r W) (r' : Loop) : LoopAt b r' (W.putObj (b + 1) (.loop r')) := ⟨World.putObj_heap_same (Array.getElem?_eq_some_iff.1 h.rcd).1, (World.putObj_heap_other (by omega)).trans h.dfr⟩
end LoopAt
/-- How a body may be left. -/
def LeftN (B : Nat) (L : List Nat) (b g : Nat) (I : Nat → World → Prop) (Ix : Code → World → Prop) (W : World) : Exit → Act → World → Prop
  | .normal, _, W' => ∃ g', YR B L (b + 2) g W g' W' ∧ I g' W'
  | .ret, _, W' => KeepsFrom b W W' ∧ Ix .ret W'
  | .exit id, _, W' => KeepsFrom b W W' ∧ Ix (.exit id) W'
  | _, _, _ => False
/-- A round, from a record that is ready to one that is ready. -/
theorem en_round {B : Nat} {L : List Nat} {r : Nat} {o o' : Obj} {W Wa W3 : World} (hr : W.heap[r]? = some o) (hB : B ≤ r) (h1 : EN B L W Wa) (h3 : EN B L (Wa.putObj r o') W3) : EN B L W (W3.putObj r o) := by
  have hra : r < Wa.heap.size := Nat.lt_of_lt_of_le (Array.getElem?_eq_some_iff.1 hr).1 h1.bx.size
  have hz : (Wa.putObj r o').heap.size = Wa.heap.size := by simp [World.putObj]
  have hr3 : r < W3.heap.size := by have := h3.bx.size; omega
  have hz3 : (W3.putObj r o).heap.size = W3.heap.size := by simp [World.putObj]
  refine ⟨⟨h3.bx.os.trans h1.bx.os, h3.bx.tape.trans h1.bx.tape, h3.bx.output.trans h1.bx.output, by rw [hz3]; have := h1.bx.size; have := h3.bx.size; omega, fun k hk hn => ?_⟩, ⟨by rw [hz3]; have := h1.bx.size; have := h3.bx.size; omega, fun k o2 hk h0 hc => ?_⟩⟩
  · rw [World.putObj_heap_other (by omega), h3.bx.block k hk hn, World.putObj_heap_other (by omega), h1.bx.block k hk hn]
  · by_cases e : k = r
    · subst e
      rw [hr] at h0
      rw [World.putObj_heap_same hr3, h0]
    · rw [World.putObj_heap_other e]
      refine h3.kf.same k o2 hk ?_ hc
      rw [World.putObj_heap_other e]
      exact h1.kf.same k o2 hk h0 hc
theorem kf_put {b r : Nat} {o : Obj} {W W' : World} (h : KeepsFrom b W W') (hr : r < b) : KeepsFrom b W (W'.putObj r o) :=
  ⟨by simpa [World.putObj] using h.size, fun k o2 hk h0 hc => (World.putObj_heap_other (by omega)).trans (h.same k o2 hk h0 hc)⟩
theorem kf_putL {b r : Nat} {o : Obj} {W W' : World} (h : KeepsFrom b (W.putObj r o) W') (hr : r < b) : KeepsFrom b W W' :=
  ⟨by simpa [World.putObj] using h.size, fun k o2 hk h0 hc => h.same k o2 hk ((World.putObj_heap_other (by omega)).trans h0) hc⟩
theorem rangeN {g : Operand} {ps : Array Tmp} {assign body : Code} {Q : Exit → Act → World → Prop} {a : Act} {w : World} {n : Nat}
    {gf : Nat} {lb : Array Value} (hg : a.eval g = .func (.func gf) #[] lb) (eg : ∀ args w, (callFunc gf args).run P w = .ok (.enter gf args) w)
    {encs : α → Array Value} {B : Nat} {L : List Nat} (hB : B ≤ w.heap.size) {xs : List α} (hseq : ∀ W, Below w.heap.size w W → SeqN P gf lb encs B L xs W)
    (hps : ∀ x, (encs x).size = ps.size) (I : List α × Nat → World → Prop) (Ix : Code → List α → World → Prop) (hI : OwnFrom w.heap.size I) (hIx : ∀ c, OwnFrom w.heap.size (Ix c)) (g0 : Nat) (hg0 : g0 < w.heap.size + 2) (h0 : I ([], g0) w)
    (Ax : List α × Nat → α → Act → World → Prop) (hAx : ∀ pre x a', OwnFrom w.heap.size (fun (_ : Unit) W => Ax pre x a' W))
    (hassign : ∀ (l : Nat) (pre : List α × Nat) (x : α) (W : World), I pre W →
      assign.wpIn (Fence.wide.inRound l) 0 P (Exit.then (fun a' W' => Ext W W' ∧ Ax pre x a' W') (fun _ _ _ => False)) { tmps := (ps.zip (encs x)).foldl (fun t (p, v) => t.setIfInBounds p v) a.tmps, defers := [] } W)
    (hbody : ∀ (l : Nat) (pre : List α) (g : Nat) (x : α) (a' : Act) (W : World), Ax (pre, g) x a' W → pre.length < xs.length → body.wpIn (Fence.wide.inRound l) 0 P (LeftN B L w.heap.size g (fun g' => I (pre ++ [x], g')) (fun c => Ix c (pre ++ [x])) W) a' W)
    (hdone : ∀ (D g' : Nat) (W : World), w.heap.size ≤ D → I (xs, g') W → W.heap[D]? = some (.deferred (some [])) → Q .normal { a with defers := { target := .collected D, args := #[] } :: a.defers } W)
    (hstop : ∀ (D : Nat) (c : Code) (pre rest : List α) (W : World), w.heap.size ≤ D → xs = pre ++ rest → Ix c pre W → W.heap[D]? = some (.deferred (some [])) → c.wpIn Fence.wide n P Q { a with defers := { target := .collected D, args := #[] } :: a.defers } W) :
    (Code.rangeFunc g ps assign body).wpIn Fence.wide n P Q a w := by
  refine wpIn_rangeFunc fun fn hfn => ?_
  obtain ⟨rc, hrc⟩ : ∃ rc : LoopState → Option Code → Loop, ∀ s p, rc s p = { state := s, pending := p, fn := fn, tmps := a.tmps, params := ps, assign := assign, body := body, defers := w.heap.size } := ⟨_, fun _ _ => rfl⟩
  have hput : ∀ s p s' p', rc s' p' = { rc s p with state := s', pending := p' } := fun s p s' p' => by rw [hrc, hrc]
  have hput1 : ∀ s p s', rc s' p = { rc s p with state := s' } := fun s p s' => by rw [hrc, hrc]
  obtain ⟨W1, hW1⟩ : ∃ W1, (w.alloc (.deferred (some []))).alloc (.loop (rc .ready none)) = W1 := ⟨_, rfl⟩
  have hz1 : W1.heap.size = w.heap.size + 2 := by rw [← hW1]; simp
  have hL1 : LoopAt w.heap.size (rc .ready none) W1 := by
    rw [← hW1]
    refine ⟨?_, (Below.heap_alloc _ _ _ (by simp)).trans (World.alloc_heap_new w _)⟩
    have h := World.alloc_heap_new (w.alloc (.deferred (some []))) (.loop (rc .ready none))
    rwa [World.size_alloc] at h
  have hI1 : I ([], g0) W1 := by rw [← hW1]; exact hI.alloc _ (hI.alloc _ h0)
  have hb1 : Below w.heap.size w W1 := by rw [← hW1]; exact ((Below.refl _ w).alloc (Nat.le_refl _) _).alloc (by simp) _
  refine ⟨w.heap.size + 1, [{ target := .collected w.heap.size, args := #[] }], W1, { target := .fn (.func gf) lb, args := #[.func (.yield (w.heap.size + 1)) #[] #[]] }, W1, gf, #[.func (.yield (w.heap.size + 1)) #[] #[]] ++ lb, W1, ?_, ?_, fun _ _ => trivial, ?_, fun e => (Bool.false_ne_true e).elim, ?_⟩
  · rw [← hW1, hrc]; exact run_enterLoop_outer _ _ _ _ _
  · simp only [resolve, hg]
    simp [go_sem]
  · simp [invoke, go_sem, eg]
  refine callsIn_wide_any ((hseq W1 hb1 (w.heap.size + 1) g0 (fun pre W => I pre W ∧ LoopAt w.heap.size (rc .ready none) W) (fun pre W => ∃ c, Ix c pre W ∧ LoopAt w.heap.size (rc .done (some c)) W) ?_ ?_ (by omega) ?_ ⟨hI1, hL1⟩).mono ?_)
  · rintro s X Y row ⟨h1, h2⟩ hgr hr
    exact ⟨hI s X Y row h1 hgr (fun r e => ⟨by have := (hr r e).1; omega, (hr r e).2⟩), h2.grown hgr (fun k e => by have := (hr k e).1; omega)⟩
  · rintro s X Y row ⟨c, h1, h2⟩ hgr hr
    exact ⟨c, hIx c s X Y row h1 hgr (fun r e => ⟨by have := (hr r e).1; omega, (hr r e).2⟩), h2.grown hgr (fun k e => by have := (hr k e).1; omega)⟩
  · rintro pre g x W ⟨hi, hl⟩ hlen
    have hy := run_yield (P := P) (args := encs x) hl.rcd (by rw [hrc]; exact hps x)
    rw [hrc] at hy
    refine ⟨fn, _, assign, body, hy, roundIn_of_wpIn hfn (wpIn_mono (hassign (w.heap.size + 1) (pre, g) x W hi) ?_)⟩
    rintro e a1 Wa hp
    cases e with
    | normal =>
      obtain ⟨hxa, hax⟩ := hp
      have hzB : B ≤ W.heap.size := by have := (Array.getElem?_eq_some_iff.1 hl.rcd).1; omega
      have he : EN B L W Wa := EN.ext hxa hzB
      have hla := hl.kept (he.mono hB)
      refine ⟨_, run_beginRound hla.rcd (by rw [hrc]), ?_⟩
      rw [← hput1 .ready none .busy]
      have hlb := hla.put (rc .busy none)
      refine wpIn_mono (hbody (w.heap.size + 1) pre g x a1 _ ((hAx (pre, g) x a1).putObj (s := ()) _ hax (by omega) hla.rcd rfl) hlen) ?_
      have fin : ∀ (jump : Option Code) (W3 : World), KeepsFrom w.heap.size (Wa.putObj (w.heap.size + 1) (.loop (rc .busy none))) W3 →
          (Instr.endRound (w.heap.size + 1) jump).run P W3 = .ok (.bool jump.isNone) (W3.putObj (w.heap.size + 1) (.loop (rc (if jump.isNone then .ready else .done) jump))) ∧ LoopAt w.heap.size (rc .busy none) W3 := fun jump W3 hk3 => by
        have hl3 := hlb.kept hk3
        have h := run_endRound (P := P) jump hl3.rcd
        rw [← hput .busy none] at h
        exact ⟨h, hl3⟩
      have stop : ∀ (c : Code) (W3 : World), KeepsFrom w.heap.size (Wa.putObj (w.heap.size + 1) (.loop (rc .busy none))) W3 → KeepsFrom W1.heap.size W (W3.putObj (w.heap.size + 1) (.loop (rc .done (some c)))) := fun c W3 hk3 =>
        kf_put ((kf_mono (he.mono hB) (by omega)).trans (kf_putL (kf_mono hk3 (by omega)) (by omega))) (by omega)
      rintro e a3 W3 hp3
      cases e with
      | normal =>
        obtain ⟨g', hy3, hi3⟩ := hp3
        obtain ⟨hr, hl3⟩ := fin none W3 (hy3.en.mono hB)
        have hzp : (Wa.putObj (w.heap.size + 1) (.loop (rc .busy none))).heap.size = Wa.heap.size := by simp [World.putObj]
        have hza := hxa.below.size
        refine ⟨_, _, hr, true, rfl, fun _ => ⟨g', ⟨hI.putObj _ hi3 (by omega) hl3.rcd rfl, hl3.put _⟩, en_round hl.rcd (by omega) he hy3.en, ?_, fun k hk hkw hkn => ?_⟩, fun h => by cases h⟩
        · rcases hy3.gh with e | e
          · exact .inl e
          · exact .inr (by omega)
        · rw [World.putObj_heap_other (by omega), hy3.fr k (by omega) (by omega) hkn, World.putObj_heap_other (by omega)]
          exact hxa.below.block k hkw
      | ret =>
        obtain ⟨hk3, hi3⟩ := hp3
        obtain ⟨hr, hl3⟩ := fin (some .ret) W3 hk3
        exact ⟨_, _, hr, false, rfl, (fun h => by cases h), fun _ => ⟨⟨.ret, (hIx _).putObj _ hi3 (by omega) hl3.rcd rfl, hl3.put _⟩, stop _ _ hk3⟩⟩
      | exit id =>
        obtain ⟨hk3, hi3⟩ := hp3
        obtain ⟨hr, hl3⟩ := fin (some (.exit id)) W3 hk3
        exact ⟨_, _, hr, false, rfl, (fun h => by cases h), fun _ => ⟨⟨.exit id, (hIx _).putObj _ hi3 (by omega) hl3.rcd rfl, hl3.put _⟩, stop _ _ hk3⟩⟩
      | goto t => exact hp3.elim
      | panic ch => exact hp3.elim
      | outgrown => exact hp3.elim
    | ret => exact hp.elim
    | exit id => exact hp.elim
    | goto t => exact hp.elim
    | panic ch => exact hp.elim
    | outgrown => exact hp.elim
  · rintro e W2 ⟨⟨v, rfl⟩, (⟨g', hi, hl⟩ | ⟨pre, rest, hx, c, hi, hl⟩)⟩
    · have h := run_endLoop (P := P) hl.rcd (by rw [hrc]; simp)
      rw [show (rc .ready none).pending = none by rw [hrc]] at h
      exact ⟨none, _, h, hdone _ g' _ (Nat.le_refl _) (hI.putObj _ hi (by omega) hl.rcd rfl) ((World.putObj_heap_other (by omega)).trans hl.dfr)⟩
    · have h := run_endLoop (P := P) hl.rcd (by rw [hrc]; simp)
      rw [show (rc .done (some c)).pending = some c by rw [hrc]] at h
      exact ⟨some c, _, h, hstop _ c pre rest _ (Nat.le_refl _) hx ((hIx c).putObj _ hi (by omega) hl.rcd rfl) ((World.putObj_heap_other (by omega)).trans hl.dfr)⟩
end
end Go.Proofs.YtokcgnbjkbhmiaaDoor
