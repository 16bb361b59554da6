/- Ghosts: one in memory; New, Written, Held; merge's Both. Ghosts: Held, Wrote. -/
import Derived.Test.YtokcgnbjkbhmiaaDoorMHB
import Derived.Test.YtokcgnbjkbhmiaaDoorReg3
namespace Go.Proofs.YtokcgnbjkbhmiaaDoor
open Go.RowKit
set_option maxHeartbeats 4000000
set_option maxRecDepth 100000
set_option linter.unusedSimpArgs false
set_option linter.unusedVariables false
attribute [local go_sem ↓] eql_entE neq_entE
theorem en_mPairs : Enters Tryd.prog 139 := ⟨_, Tryd.func139, by kernel_rfl, rfl⟩
structure NK where
  k : ByteArray
  c : Int
  n : Int
theorem nk_ext {a b : NK} (h0 : a.k.toList = b.k.toList) (h1 : a.c = b.c) (h2 : a.n = b.n) : a = b := by
  obtain ⟨a0, a1, a2⟩ := a
  obtain ⟨b0, b1, b2⟩ := b
  dsimp only at *
  rw [ba_ext h0, h1, h2]
instance : DecidableEq NK := fun a b =>
  if h : a.k.toList = b.k.toList ∧ a.c = b.c ∧ a.n = b.n then .isTrue (nk_ext h.1 h.2.1 h.2.2) else .isFalse fun e => h (by subst e; exact ⟨rfl, rfl, rfl⟩)
abbrev nkV (a : NK) : Value := .agg #[.string a.k, .int .i64 a.c, .int .i64 a.n]
def nk (e : Ent) : NK := ⟨e.key, e.ctr, e.node⟩
section
variable {α β : Type} [DecidableEq α]
theorem mget_set_at {n : α} {t : β} : ∀ {M : List (α × β)}, mget n (mset n t M) = some t
  | [] => by simp [mset, mget]
  | p :: M => by
    unfold mset
    split
    · rename_i h
      simp [mget, h]
    · rename_i h
      unfold mget
      rw [if_neg (by simpa using h)]
      exact mget_set_at
theorem mget_set_other {n m : α} (e : ¬ m = n) {t : β} : ∀ {M : List (α × β)}, mget m (mset n t M) = mget m M
  | [] => by simp [mset, mget, Ne.symm e, e]
  | p :: M => by
    unfold mset
    split
    · rename_i h
      have h9 : ¬ m = p.1 := fun h' => e (h'.trans h.symm)
      unfold mget
      simp [h9]
    · unfold mget
      split
      · rfl
      · exact mget_set_other e
end
def findN (n : NK) (A : List Ent) : Option Ent := A.find? fun x => decide (nk x = n)
theorem findN_some {n : NK} {A : List Ent} {x : Ent} (h : findN n A = some x) : x ∈ A ∧ nk x = n := ⟨List.mem_of_find?_eq_some h, by simpa using List.find?_some h⟩
def NoTw (A : List Ent) : Prop := ∀ x ∈ A, ∀ y ∈ A, nk x = nk y → x = y
theorem findN_mem {A : List Ent} (h : NoTw A) (x : Ent) : findN (nk x) A = some x ↔ x ∈ A := by
  refine ⟨fun h' => (findN_some h').1, fun hm => ?_⟩
  cases hf : findN (nk x) A with
  | none =>
    have := List.find?_eq_none.1 hf x hm
    simp at this
  | some y =>
    obtain ⟨h1, h2⟩ := findN_some hf
    rw [h y h1 x hm h2]
/-- Where a slice's memory does not lie. -/
def EAway (L : List Nat) (v : Value) : Prop := ∀ b o n c, v = .slice (some ⟨b, o, none⟩) n c → 0 < n → b ∉ L
theorem EAway.mono {L L' : List Nat} {v : Value} (h : EAway L v) (hL : ∀ k ∈ L', k ∈ L) : EAway L' v := fun b o n c e hn hm => h b o n c e hn (hL b hm)
theorem EntSl.xl {L : List Nat} {w w' : World} {v : Value} {l : List Ent} (h : EntSl w v l) (hx : Xl L w w') (ha : EAway L v) : EntSl w' v l := by
  obtain ⟨a, c, rfl, h2, h3, h4⟩ := h
  refine ⟨a, c, rfl, h2, h3, fun hp => ?_⟩
  obtain ⟨b, o, rfl, h6⟩ := h4 hp
  have hn := ha b o _ _ rfl hp
  have hb := cell_lt (h6 0 hp).c0
  exact ⟨b, o, rfl, fun i hi => ⟨(hx.cell hb hn).trans (h6 i hi).c0, (hx.cell hb hn).trans (h6 i hi).c1, (hx.cell hb hn).trans (h6 i hi).c2, (hx.cell hb hn).trans (h6 i hi).c3, (hx.cell hb hn).trans (h6 i hi).c4⟩⟩
theorem EAway.of_lt {L : List Nat} {w : World} {v : Value} {l : List Ent} (h : EntSl w v l) (hL : ∀ k ∈ L, w.heap.size ≤ k) : EAway L v := fun b o n c e hn hm => by
  obtain ⟨a, c', rfl, h2, h3, h4⟩ := h
  cases e
  obtain ⟨b', o', e, h6⟩ := h4 hn
  cases e
  have := cell_lt (h6 0 hn).c0
  have := hL _ hm
  omega
/-- A new list. -/
def ENew (B : Nat) (w : World) (v : Value) (l : List Ent) : Prop := EntSl w v l ∧ ∀ b o n c, v = .slice (some ⟨b, o, none⟩) n c → 0 < n → B ≤ b
theorem clone_new {B : Nat} {w : World} {a' : Option Addr} {c' : Nat} {l : List Ent} (hm : l.length ≤ 1073741824) (h1 : l.length ≤ c') (h2 : 0 < l.length → ∃ S, a' = some ⟨S, 0, none⟩ ∧ B ≤ S ∧ ∀ i, (h : i < l.length) → EntAt w S (i * 5) l[i]) : ENew B w (.slice a' l.length c') l :=
  ⟨⟨a', c', rfl, h1, by omega, fun hp => let ⟨S, e, _, h4⟩ := h2 hp; ⟨S, 0, e, fun i hi => by rw [Nat.zero_add]; exact h4 i hi⟩⟩, fun b o n c e hn => by
    cases e
    obtain ⟨S, e, h3, _⟩ := h2 hn
    cases e
    exact h3⟩
theorem ENew.ext {B : Nat} {w w' : World} {v : Value} {l : List Ent} (h : ENew B w v l) (hx : Ext w w') : ENew B w' v l := ⟨h.1.ext hx, h.2⟩
theorem ENew.away {B : Nat} {w : World} {v : Value} {l : List Ent} {L : List Nat} (h : ENew B w v l) (hL : ∀ k ∈ L, k < B) : EAway L v := fun b o n c e hn hm => by have := h.2 b o n c e hn; have := hL b hm; omega
theorem mPairs_any (av bv : Value) (w : World) (h1 : ∃ a n c, av = .slice a n c) (h2 : ∃ a n c, bv = .slice a n c) :
    Calls Tryd.prog 139 #[av, bv] w fun e w' => ∃ ab bb, e = .returned (.func (.func 149) #[] #[.pointer (some ⟨ab, 0, none⟩), .pointer (some ⟨bb, 0, none⟩)]) ∧
      w'.cell? ⟨ab, 0, none⟩ = some av ∧ w'.cell? ⟨bb, 0, none⟩ = some bv ∧ Ext w w' := by
  obtain ⟨a, n, c, rfl⟩ := h1
  obtain ⟨a', n', c', rfl⟩ := h2
  go_enter Tryd.func139, Tryd.ntmps139
  go_wp2
  go_ret
  exact ⟨_, _, rfl, by go_simp, by go_simp, by (repeat (first | exact Ext.refl _ | apply Ext.drew_left | apply Ext.drew | apply Ext.alloc))⟩
end Go.Proofs.YtokcgnbjkbhmiaaDoor
namespace Go.Proofs.YtokcgnbjkbhmiaaDoor
open Go.RowKit
set_option maxHeartbeats 4000000
set_option maxRecDepth 100000
set_option linter.unusedSimpArgs false
set_option linter.unusedVariables false
attribute [local go_sem ↓] eql_entE neq_entE

def isNd (n : Int) : Bool := decide (0 ≤ n ∧ n < 8)
theorem isNd_at {n : Int} (h : isNd n = true) : ∃ k : Nat, k < 8 ∧ n = (k : Int) := by
  have := of_decide_eq_true h
  exact ⟨n.toNat, by omega, by omega⟩
def heldL (n : Int) (ls : Nat → List Ent) : List Ent := if isNd n then ls n.toNat else []
def wroteE (e : Ent) (A : List Ent) : Int := if eChk e ≠ 0 then eChk e else match findN (nk e) A with | some y => if y = e then 0 else 190 | none => 0
def wroteA (e : Ent) (A : List Ent) : List Ent := if eChk e ≠ 0 then A else match findN (nk e) A with | some _ => A | none => A ++ [e]
theorem findN_app {n : NK} {A : List Ent} {e : Ent} (h : findN (nk e) A = none) : findN n (A ++ [e]) = if n = nk e then some e else findN n A := by
  unfold findN at h ⊢
  rw [List.find?_append]
  by_cases hn : n = nk e
  · subst hn
    rw [h, if_pos rfl]
    simp
  · rw [if_neg hn]
    have : (decide (nk e = n)) = false := by simp [Ne.symm hn]
    cases hf : List.find? (fun x => decide (nk x = n)) A <;> simp [this]
theorem noTw_app {A : List Ent} {e : Ent} (h : NoTw A) (hf : findN (nk e) A = none) : NoTw (A ++ [e]) := by
  have hn : ∀ x ∈ A, nk x ≠ nk e := fun x hx => by
    have := List.find?_eq_none.1 hf x hx
    simpa using this
  intro x hx y hy hxy
  rcases List.mem_append.1 hx with hx | hx <;> rcases List.mem_append.1 hy with hy | hy
  · exact h x hx y hy hxy
  · rw [List.mem_singleton] at hy; subst hy; exact absurd hxy (hn x (by assumption))
  · rw [List.mem_singleton] at hx; subst hx; exact absurd hxy.symm (hn y (by assumption))
  · simp at hx hy; rw [hx, hy]
theorem noTw_wrote {A : List Ent} {e : Ent} (h : NoTw A) : NoTw (wroteA e A) := by
  unfold wroteA
  split
  · exact h
  · split
    · exact h
    · rename_i hf
      exact noTw_app h hf
theorem mapAt_xl {α β : Type} {ek : α → Value} {ev : β → Value} {L : List Nat} {w w' : World} {b : Nat} {M : List (α × β)} (h : MapAt ek ev w b M) (hx : Xl L w w') (hn : b ∉ L) : MapAt ek ev w' b M := by
  obtain ⟨es, clock, h1, h2⟩ := h
  exact ⟨es, clock, (hx.block b (Array.getElem?_eq_some_iff.1 h1).1 hn).trans h1, h2⟩
theorem Xl.mono' {L L' : List Nat} {w w' : World} (h : Xl L w w') (hs : ∀ k ∈ L, k ∈ L') : Xl L' w w' := ⟨h.os, h.tape, h.output, h.size, fun k hk hn => h.block k hk (fun h' => hn (hs k h'))⟩
theorem gen_codeH {P : Program} {c : Code} {Q : Exit → Act → World → Prop} {a : Act} {w : World} (R : World → Prop) (h0 : R w) (h : ∀ W, R W → c.wp P Q a W) : c.wp P Q a w := h w h0
end Go.Proofs.YtokcgnbjkbhmiaaDoor
