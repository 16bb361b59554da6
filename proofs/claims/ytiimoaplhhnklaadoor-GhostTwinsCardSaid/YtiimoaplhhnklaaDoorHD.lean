/- Ghosts: Held, Wrote. -/
import Derived.Test.YtiimoaplhhnklaaDoorHC
namespace Go.Proofs.YtiimoaplhhnklaaDoor
open Go.RowKit
set_option maxHeartbeats 4000000
set_option maxRecDepth 100000
set_option linter.unusedSimpArgs false
set_option linter.unusedVariables false
attribute [local go_sem ↓] eql_entE neq_entE

def isNd (n : Int) : Bool := decide (0 ≤ n ∧ n < 8)
theorem isNd_at {n : Int} (h : isNd n = true) : ∃ k : Nat, k < 8 ∧ n = (k : Int) := by
  have := of_decide_eq_true h
  exact ⟨n.toNat, by omega, by omega⟩
def heldL (n : Int) (ls : Nat → List Ent) : List Ent := if isNd n then ls n.toNat else []
def wroteE (e : Ent) (A : List Ent) : Int := if eChk e ≠ 0 then eChk e else match findN (nk e) A with | some y => if y = e then 0 else 190 | none => 0
def wroteA (e : Ent) (A : List Ent) : List Ent := if eChk e ≠ 0 then A else match findN (nk e) A with | some _ => A | none => A ++ [e]
theorem findN_app {n : NK} {A : List Ent} {e : Ent} (h : findN (nk e) A = none) : findN n (A ++ [e]) = if n = nk e then some e else findN n A := by
  unfold findN at h ⊢
  rw [List.find?_append]
  by_cases hn : n = nk e
  · subst hn
    rw [h, if_pos rfl]
    simp
  · rw [if_neg hn]
    have : (decide (nk e = n)) = false := by simp [Ne.symm hn]
    cases hf : List.find? (fun x => decide (nk x = n)) A <;> simp [this]
theorem noTw_app {A : List Ent} {e : Ent} (h : NoTw A) (hf : findN (nk e) A = none) : NoTw (A ++ [e]) := by
  have hn : ∀ x ∈ A, nk x ≠ nk e := fun x hx => by
    have := List.find?_eq_none.1 hf x hx
    simpa using this
  intro x hx y hy hxy
  rcases List.mem_append.1 hx with hx | hx <;> rcases List.mem_append.1 hy with hy | hy
  · exact h x hx y hy hxy
  · rw [List.mem_singleton] at hy; subst hy; exact absurd hxy (hn x (by assumption))
  · rw [List.mem_singleton] at hx; subst hx; exact absurd hxy.symm (hn y (by assumption))
  · simp at hx hy; rw [hx, hy]
theorem noTw_wrote {A : List Ent} {e : Ent} (h : NoTw A) : NoTw (wroteA e A) := by
  unfold wroteA
  split
  · exact h
  · split
    · exact h
    · rename_i hf
      exact noTw_app h hf
theorem mapAt_xl {α β : Type} {ek : α → Value} {ev : β → Value} {L : List Nat} {w w' : World} {b : Nat} {M : List (α × β)} (h : MapAt ek ev w b M) (hx : Xl L w w') (hn : b ∉ L) : MapAt ek ev w' b M := by
  obtain ⟨es, clock, h1, h2⟩ := h
  exact ⟨es, clock, (hx.block b (Array.getElem?_eq_some_iff.1 h1).1 hn).trans h1, h2⟩
theorem Xl.mono' {L L' : List Nat} {w w' : World} (h : Xl L w w') (hs : ∀ k ∈ L, k ∈ L') : Xl L' w w' := ⟨h.os, h.tape, h.output, h.size, fun k hk hn => h.block k hk (fun h' => hn (hs k h'))⟩
theorem gen_codeH {P : Program} {c : Code} {Q : Exit → Act → World → Prop} {a : Act} {w : World} (R : World → Prop) (h0 : R w) (h : ∀ W, R W → c.wp P Q a W) : c.wp P Q a w := h w h0
end Go.Proofs.YtiimoaplhhnklaaDoor
