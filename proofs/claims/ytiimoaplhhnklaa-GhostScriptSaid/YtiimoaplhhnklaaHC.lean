/- Ghosts: one in memory; New, Written, Held; merge's Both. -/
import Derived.Test.YtiimoaplhhnklaaHB
import Derived.Test.YtiimoaplhhnklaaReg3
namespace Go.Proofs.Ytiimoaplhhnklaa
open Go.RowKit
set_option maxHeartbeats 4000000
set_option maxRecDepth 100000
set_option linter.unusedSimpArgs false
set_option linter.unusedVariables false
attribute [local go_sem ↓] eql_entE neq_entE
theorem en_GhNew : Enters Try.prog 10 := ⟨_, Try.func10, by kernel_rfl, rfl⟩
theorem en_GhWritten : Enters Try.prog 20 := ⟨_, Try.func20, by kernel_rfl, rfl⟩
theorem en_GhHeld : Enters Try.prog 14 := ⟨_, Try.func14, by kernel_rfl, rfl⟩
theorem en_GhWrote : Enters Try.prog 17 := ⟨_, Try.func17, by kernel_rfl, rfl⟩
theorem en_GhSees : Enters Try.prog 18 := ⟨_, Try.func18, by kernel_rfl, rfl⟩
theorem en_GhIsNode : Enters Try.prog 39 := ⟨_, Try.func39, by kernel_rfl, rfl⟩
theorem en_mBoth : Enters Try.prog 43 := ⟨_, Try.func43, by kernel_rfl, rfl⟩
theorem en_mPairs : Enters Try.prog 46 := ⟨_, Try.func46, by kernel_rfl, rfl⟩
structure NK where
  k : ByteArray
  c : Int
  n : Int
theorem nk_ext {a b : NK} (h0 : a.k.toList = b.k.toList) (h1 : a.c = b.c) (h2 : a.n = b.n) : a = b := by
  obtain ⟨a0, a1, a2⟩ := a
  obtain ⟨b0, b1, b2⟩ := b
  dsimp only at *
  rw [ba_ext h0, h1, h2]
instance : DecidableEq NK := fun a b =>
  if h : a.k.toList = b.k.toList ∧ a.c = b.c ∧ a.n = b.n then .isTrue (nk_ext h.1 h.2.1 h.2.2) else .isFalse fun e => h (by subst e; exact ⟨rfl, rfl, rfl⟩)
abbrev nkV (a : NK) : Value := .agg #[.string a.k, .int .i64 a.c, .int .i64 a.n]
def nk (e : Ent) : NK := ⟨e.key, e.ctr, e.node⟩
theorem key_nk : KeyOK Try.prog 93 nkV where
  chk := fun b a w => by
    obtain ⟨a1, a2, a3⟩ := a
    cases b <;> rfl
  eql := fun a b w => by
    have e : decide (a = b) = decide (a.k.toList = b.k.toList ∧ a.c = b.c ∧ a.n = b.n) := by
      rw [decide_eq_decide]
      exact ⟨fun e => by subst e; exact ⟨rfl, rfl, rfl⟩, fun h => nk_ext h.1 h.2.1 h.2.2⟩
    rw [e]
    obtain ⟨a1, a2, a3⟩ := a
    obtain ⟨b1, b2, b3⟩ := b
    simp only [nkV, Op.equal, Op.maxDepth]
    go_simp
    by_cases h2 : a2 = b2 <;> by_cases h3 : a3 = b3 <;> by_cases h1 : a1.toList = b1.toList <;> simp [*]
  now := ⟨_, Try.underlying93, fun a b => rfl⟩
  bits := fun a => by
    obtain ⟨a1, a2, a3⟩ := a
    simp [nkV, Instr.sameBits]
    first | done | (cases a1; simp [BEq.beq, ByteArray.beq]; done) | (show (a1.data == a1.data) = true; simp) | (simp [BEq.beq, ByteArray.beq]; done) | (unfold BEq.beq; cases a1; rename_i d; cases d; simp [instBEqByteArray, ByteArray.beq])
section
variable {α β : Type} [DecidableEq α]
theorem mget_set_at {n : α} {t : β} : ∀ {M : List (α × β)}, mget n (mset n t M) = some t
  | [] => by simp [mset, mget]
  | p :: M => by
    unfold mset
    split
    · rename_i h
      simp [mget, h]
    · rename_i h
      unfold mget
      rw [if_neg (by simpa using h)]
      exact mget_set_at
theorem mget_set_other {n m : α} (e : ¬ m = n) {t : β} : ∀ {M : List (α × β)}, mget m (mset n t M) = mget m M
  | [] => by simp [mset, mget, Ne.symm e, e]
  | p :: M => by
    unfold mset
    split
    · rename_i h
      have h9 : ¬ m = p.1 := fun h' => e (h'.trans h.symm)
      unfold mget
      simp [h9]
    · unfold mget
      split
      · rfl
      · exact mget_set_other e
end
def findN (n : NK) (A : List Ent) : Option Ent := A.find? fun x => decide (nk x = n)
theorem findN_some {n : NK} {A : List Ent} {x : Ent} (h : findN n A = some x) : x ∈ A ∧ nk x = n := ⟨List.mem_of_find?_eq_some h, by simpa using List.find?_some h⟩
def NoTw (A : List Ent) : Prop := ∀ x ∈ A, ∀ y ∈ A, nk x = nk y → x = y
theorem findN_mem {A : List Ent} (h : NoTw A) (x : Ent) : findN (nk x) A = some x ↔ x ∈ A := by
  refine ⟨fun h' => (findN_some h').1, fun hm => ?_⟩
  cases hf : findN (nk x) A with
  | none =>
    have := List.find?_eq_none.1 hf x hm
    simp at this
  | some y =>
    obtain ⟨h1, h2⟩ := findN_some hf
    rw [h y h1 x hm h2]
/-- Where a slice's memory does not lie. -/
def EAway (L : List Nat) (v : Value) : Prop := ∀ b o n c, v = .slice (some ⟨b, o, none⟩) n c → 0 < n → b ∉ L
theorem EAway.mono {L L' : List Nat} {v : Value} (h : EAway L v) (hL : ∀ k ∈ L', k ∈ L) : EAway L' v := fun b o n c e hn hm => h b o n c e hn (hL b hm)
theorem EntSl.xl {L : List Nat} {w w' : World} {v : Value} {l : List Ent} (h : EntSl w v l) (hx : Xl L w w') (ha : EAway L v) : EntSl w' v l := by
  obtain ⟨a, c, rfl, h2, h3, h4⟩ := h
  refine ⟨a, c, rfl, h2, h3, fun hp => ?_⟩
  obtain ⟨b, o, rfl, h6⟩ := h4 hp
  have hn := ha b o _ _ rfl hp
  have hb := cell_lt (h6 0 hp).c0
  exact ⟨b, o, rfl, fun i hi => ⟨(hx.cell hb hn).trans (h6 i hi).c0, (hx.cell hb hn).trans (h6 i hi).c1, (hx.cell hb hn).trans (h6 i hi).c2, (hx.cell hb hn).trans (h6 i hi).c3, (hx.cell hb hn).trans (h6 i hi).c4⟩⟩
theorem EAway.of_lt {L : List Nat} {w : World} {v : Value} {l : List Ent} (h : EntSl w v l) (hL : ∀ k ∈ L, w.heap.size ≤ k) : EAway L v := fun b o n c e hn hm => by
  obtain ⟨a, c', rfl, h2, h3, h4⟩ := h
  cases e
  obtain ⟨b', o', e, h6⟩ := h4 hn
  cases e
  have := cell_lt (h6 0 hn).c0
  have := hL _ hm
  omega
/-- A new list. -/
def ENew (B : Nat) (w : World) (v : Value) (l : List Ent) : Prop := EntSl w v l ∧ ∀ b o n c, v = .slice (some ⟨b, o, none⟩) n c → 0 < n → B ≤ b
theorem clone_new {B : Nat} {w : World} {a' : Option Addr} {c' : Nat} {l : List Ent} (hm : l.length ≤ 1073741824) (h1 : l.length ≤ c') (h2 : 0 < l.length → ∃ S, a' = some ⟨S, 0, none⟩ ∧ B ≤ S ∧ ∀ i, (h : i < l.length) → EntAt w S (i * 5) l[i]) : ENew B w (.slice a' l.length c') l :=
  ⟨⟨a', c', rfl, h1, by omega, fun hp => let ⟨S, e, _, h4⟩ := h2 hp; ⟨S, 0, e, fun i hi => by rw [Nat.zero_add]; exact h4 i hi⟩⟩, fun b o n c e hn => by
    cases e
    obtain ⟨S, e, h3, _⟩ := h2 hn
    cases e
    exact h3⟩
theorem ENew.ext {B : Nat} {w w' : World} {v : Value} {l : List Ent} (h : ENew B w v l) (hx : Ext w w') : ENew B w' v l := ⟨h.1.ext hx, h.2⟩
theorem ENew.away {B : Nat} {w : World} {v : Value} {l : List Ent} {L : List Nat} (h : ENew B w v l) (hL : ∀ k ∈ L, k < B) : EAway L v := fun b o n c e hn hm => by have := h.2 b o n c e hn; have := hL b hm; omega
theorem mPairs_any (av bv : Value) (w : World) (h1 : ∃ a n c, av = .slice a n c) (h2 : ∃ a n c, bv = .slice a n c) :
    Calls Try.prog 46 #[av, bv] w fun e w' => ∃ ab bb, e = .returned (.func (.func 65) #[] #[.pointer (some ⟨ab, 0, none⟩), .pointer (some ⟨bb, 0, none⟩)]) ∧
      w'.cell? ⟨ab, 0, none⟩ = some av ∧ w'.cell? ⟨bb, 0, none⟩ = some bv ∧ Ext w w' := by
  obtain ⟨a, n, c, rfl⟩ := h1
  obtain ⟨a', n', c', rfl⟩ := h2
  go_enter Try.func46, Try.ntmps46
  go_wp2
  go_ret
  exact ⟨_, _, rfl, by go_simp, by go_simp, by (repeat (first | exact Ext.refl _ | apply Ext.drew_left | apply Ext.drew | apply Ext.alloc))⟩
theorem mBoth_any (a b : List Ent) (av bv : Value) (w : World) (hs : EntSl w av a) (hs' : EntSl w bv b) (ha : mChk a = 0) (hb : mChk b = 0) (hla : a.length ≤ 1073741824) (hlb : b.length ≤ 1073741824) :
    Calls Try.prog 43 #[av, bv] w fun e w' => ∃ ab bb av' bv', e = .returned (.func (.func 65) #[] #[.pointer (some ⟨ab, 0, none⟩), .pointer (some ⟨bb, 0, none⟩)]) ∧
      w'.cell? ⟨ab, 0, none⟩ = some av' ∧ w'.cell? ⟨bb, 0, none⟩ = some bv' ∧ EntSl w' av' a ∧ EntSl w' bv' b ∧ Ext w w' := by
  have HS := hid_mk (And.intro hs hs')
  have HL := hid_mk (And.intro hla hlb)
  have HM := hid_mk (show (if mChk a ≠ 0 then mChk a else mChk b) = 0 by rw [ha, hb]; rfl)
  obtain ⟨xa, xc, rfl, -⟩ := hs
  obtain ⟨ya, yc, rfl, -⟩ := hs'
  clear ha hb hla hlb
  go_enter Try.func43, Try.ntmps43
  go_wp2_with fail
  refine (mCheck2_any a b _ _ _ HS.out.1 HS.out.2).mono ?_
  rintro e w1 ⟨rfl, hx1⟩
  rw [HM.out]
  have HX1 := hid_mk hx1
  clear hx1
  go_wp2_with fail
  refine (cloneEnt_any a _ _ (HS.out.1.ext HX1.out) HL.out.1).mono ?_
  rintro e w2 ⟨a2, c2, rfl, h2, hx2, -, hc2⟩
  have HN2 := hid_mk (clone_new HL.out.1 h2 hc2).1
  have HX2 := hid_mk (Ext.trans _ _ _ HX1.out hx2)
  clear hx2 h2 hc2 HX1
  go_wp2_with fail
  refine (cloneEnt_any b _ _ (HS.out.2.ext HX2.out) HL.out.2).mono ?_
  rintro e w3 ⟨a3, c3, rfl, h3, hx3, -, hc3⟩
  have HN3 := hid_mk (clone_new HL.out.2 h3 hc3).1
  have HN23 := hid_mk (HN2.out.ext hx3)
  have HX3 := hid_mk (Ext.trans _ _ _ HX2.out hx3)
  clear hx3 h3 hc3 HX2 HN2
  go_wp2_with fail
  refine (mPairs_any _ _ _ ⟨_, _, _, rfl⟩ ⟨_, _, _, rfl⟩).mono ?_
  rintro e w4 ⟨ab, bb, rfl, hc1, hc2, hx4⟩
  have HE := hid_mk (And.intro hc1 (And.intro hc2 (And.intro (HN23.out.ext hx4) (And.intro (HN3.out.ext hx4) (Ext.trans _ _ _ HX3.out hx4)))))
  clear hc1 hc2 hx4
  go_wp2
  go_ret
  exact ⟨ab, bb, _, _, rfl, HE.out.1, HE.out.2.1, HE.out.2.2.1, HE.out.2.2.2.1, HE.out.2.2.2.2⟩
/-- A ghost: what was written, what each node held. -/
structure GhAt (w : World) (gb mb : Nat) (A : List Ent) (sv : Nat → Value) (ls : Nat → List Ent) : Prop where
  blk : w.heap[gb]? = some (.cells #[.map (some mb), sv 0, sv 1, sv 2, sv 3, sv 4, sv 5, sv 6, sv 7] 86 (0, 0))
  map : ∃ M, MapAt nkV entV w mb M ∧ ∀ n, mget n M = findN n A
  sl : ∀ i, i < 8 → EntSl w (sv i) (ls i)
  aw : ∀ i, i < 8 → EAway [gb, mb] (sv i)
  ne : gb ≠ mb
theorem GhAt.lt {w : World} {gb mb : Nat} {A : List Ent} {sv : Nat → Value} {ls : Nat → List Ent} (h : GhAt w gb mb A sv ls) : gb < w.heap.size ∧ mb < w.heap.size := by
  obtain ⟨M, ⟨es, clock, hm, -⟩, -⟩ := h.map
  exact ⟨(Array.getElem?_eq_some_iff.1 h.blk).1, (Array.getElem?_eq_some_iff.1 hm).1⟩
theorem GhAt.c0 {w : World} {gb mb : Nat} {A : List Ent} {sv : Nat → Value} {ls : Nat → List Ent} (h : GhAt w gb mb A sv ls) : w.cell? ⟨gb, 0, none⟩ = some (.map (some mb)) := by simp [World.cell?, h.blk]
theorem GhAt.cs {w : World} {gb mb : Nat} {A : List Ent} {sv : Nat → Value} {ls : Nat → List Ent} (h : GhAt w gb mb A sv ls) {k : Nat} (hk : k < 8) : w.cell? ⟨gb, 1 + k, none⟩ = some (sv k) ∧ w.frozen? ⟨gb, 1 + k, none⟩ = false := by
  match k, hk with
  | 0, _ | 1, _ | 2, _ | 3, _ | 4, _ | 5, _ | 6, _ | 7, _ => exact ⟨by simp [World.cell?, h.blk], by simp [World.frozen?, h.blk]⟩
theorem GhAt.away {w w' : World} {gb mb : Nat} {A : List Ent} {sv : Nat → Value} {ls : Nat → List Ent} {L : List Nat} (h : GhAt w gb mb A sv ls) (hx : Xl L w w') (h1 : gb ∉ L) (h2 : mb ∉ L) (h3 : ∀ i, i < 8 → EAway L (sv i)) : GhAt w' gb mb A sv ls := by
  obtain ⟨M, ⟨es, clock, hm, he⟩, hM⟩ := h.map
  exact ⟨(hx.block gb h.lt.1 h1).trans h.blk, ⟨M, ⟨es, clock, (hx.block mb h.lt.2 h2).trans hm, he⟩, hM⟩, fun i hi => (h.sl i hi).xl hx (h3 i hi), h.aw, h.ne⟩
theorem GhAt.ext {w w' : World} {gb mb : Nat} {A : List Ent} {sv : Nat → Value} {ls : Nat → List Ent} (h : GhAt w gb mb A sv ls) (hx : Ext w w') : GhAt w' gb mb A sv ls := h.away (L := []) (Xl.of hx) (by simp) (by simp) (fun i hi b o n c e hn => by simp)
theorem lookG {w : World} {gb mb : Nat} {A : List Ent} {sv : Nat → Value} {ls : Nat → List Ent} (h : GhAt w gb mb A sv ls) (n : NK) : (Instr.lookup 83 (.map (some mb)) (nkV n) true).run Try.prog w = .ok (.tuple #[((findN n A).map entV).getD (entV zE), .bool (findN n A).isSome]) w := by
  obtain ⟨M, hm, hM⟩ := h.map
  have := map_lookup key_nk Try.underlying83 hm (z := entV zE) (by first | exact Try.zeroValue31 w | kernel_rfl | rfl) n true
  rw [this, hM n]
  rfl
theorem gnew_any (w : World) : Calls Try.prog 10 #[] w fun e w' => ∃ gb mb, e = .returned (.pointer (some ⟨gb, 0, none⟩)) ∧ w.heap.size ≤ gb ∧ w.heap.size ≤ mb ∧ GhAt w' gb mb [] (fun _ => .slice none 0 0) (fun _ => []) ∧ Ext w w' := by
  have hmm := @run_makeMap Try.prog
  go_enter Try.func10, Try.ntmps10
  go_wp2
  go_ret
  have hx : Ext w ((w.alloc (.map #[] 0)).alloc (.cells #[.map (some w.heap.size), .slice none 0 0, .slice none 0 0, .slice none 0 0, .slice none 0 0, .slice none 0 0, .slice none 0 0, .slice none 0 0, .slice none 0 0] 86)) := by (repeat (first | exact Ext.refl _ | apply Ext.drew_left | apply Ext.drew | apply Ext.alloc))
  refine ⟨w.heap.size + 1, w.heap.size, rfl, by omega, Nat.le_refl _, ⟨?_, ⟨[], ⟨#[], 0, ?_, rfl⟩, fun n => rfl⟩, fun i hi => ⟨none, 0, rfl, Nat.le_refl _, by simp, fun h => by simp at h⟩, (fun i hi b o n c e hn => by cases e), by omega⟩, hx⟩
  · have h := heap_alloc_new (w.alloc (.map #[] 0)) (.cells #[.map (some w.heap.size), .slice none 0 0, .slice none 0 0, .slice none 0 0, .slice none 0 0, .slice none 0 0, .slice none 0 0, .slice none 0 0, .slice none 0 0] 86)
    rw [show (w.alloc (.map #[] 0)).heap.size = w.heap.size + 1 by simp] at h
    exact h
  · have h1 := heap_alloc_new w (.map #[] 0)
    exact ((Ext.refl (w.alloc (.map #[] 0))).alloc _).below.block w.heap.size (by simp) |>.trans h1
theorem gnode_any (n : Int) (w : World) : Calls Try.prog 39 #[.int .i64 n] w fun e w' => e = .returned (.bool (decide (0 ≤ n ∧ n < 8))) ∧ w = w' := by
  go_enter Try.func39, Try.ntmps39
  go_wp2
  all_goals go_ret
  all_goals (refine ⟨?_, rfl⟩; refine ret_bool ?_; simp; try omega)
theorem written_any {w : World} {gb mb : Nat} {A : List Ent} {sv : Nat → Value} {ls : Nat → List Ent} (h : GhAt w gb mb A sv ls) (x : Ent) :
    Calls Try.prog 20 #[.pointer (some ⟨gb, 0, none⟩), entV x] w fun e w' => e = .returned (.bool (decide (findN (nk x) A = some x))) ∧ Ext w w' := by
  have h0 := h.c0
  have hgl := h.lt.1
  have hgl1 : gb < w.heap.size + 1 := by omega
  have hgl2 : gb < w.heap.size + 1 + 1 := by omega
  obtain ⟨r, hr⟩ : ∃ r, findN (nk x) A = r := ⟨_, rfl⟩
  rw [hr]
  have HL := hid_mk (fun (W : World) (hx : Ext w W) => (show (Instr.lookup 83 (.map (some mb)) (.agg #[.string x.key, .int .i64 x.ctr, .int .i64 x.node]) true).run Try.prog W = .ok (.tuple #[(r.map entV).getD (entV zE), .bool r.isSome]) W by rw [← hr]; exact lookG (h.ext hx) (nk x)))
  clear h hr
  cases r with
  | none =>
    simp only [Option.map_none, Option.getD_none, Option.isSome_none] at HL
    dsimp only [entV, zE] at HL ⊢
    go_enter Try.func20, Try.ntmps20
    go_wp2_with fail
    refine wp_region_held_planC Ext (fun i => i != 14) (fun i => [0, 1, 2, 4, 6, 8, 10, 11, 12, 15].contains i) (.quiet 0 (.quiet 1 (.quiet 2 (.quiet 3 (.quiet 4 (.quiet 5 (.quiet 6 (.quiet 7 (.quiet 8 (.quiet 9 (.quiet 10 (.quiet 11 (.quiet 12 (.alt 13 (.alt 14 (.quiet 15 .done) .stop) .stop)))))))))))))) (by kernel_rfl) (by kernel_rfl) Ext.refl Ext.trans (by intro c a w d v h; cases d <;> exact h) (fun ops HO => ?_)
    refine planC_calm _ (hi_of HO rfl) rfl (fun w' => by go_simp; rfl) ?_
    simp only [Act.put, List.setIfInBounds_toArray, List.set_cons_succ, List.set_cons_zero]
    refine planC_calm _ (hi_of HO rfl) rfl (fun w' => by go_simp; rfl) ?_
    simp only [Act.put, List.setIfInBounds_toArray, List.set_cons_succ, List.set_cons_zero]
    refine planC_calm _ (hi_of HO rfl) rfl (fun w' => by go_simp; rfl) ?_
    simp only [Act.put, List.setIfInBounds_toArray, List.set_cons_succ, List.set_cons_zero]
    refine planC_read _ (hi_of HO rfl) rfl rfl (fun w' hE => by (repeat (with_reducible replace hE := Ext.unD hE)); have hcE := hE.hc; clear hE; go_simp; rfl) ?_
    simp only [Act.put, List.setIfInBounds_toArray, List.set_cons_succ, List.set_cons_zero]
    refine planC_calm _ (hi_of HO rfl) rfl (fun w' => by go_simp; rfl) ?_
    simp only [Act.put, List.setIfInBounds_toArray, List.set_cons_succ, List.set_cons_zero]
    refine planC_read _ (hi_of HO rfl) rfl rfl (fun w' hE => by (repeat (with_reducible replace hE := Ext.unD hE)); have hcE := hE.hc; clear hE; go_simp; rfl) ?_
    simp only [Act.put, List.setIfInBounds_toArray, List.set_cons_succ, List.set_cons_zero]
    refine planC_calm _ (hi_of HO rfl) rfl (fun w' => by go_simp; rfl) ?_
    simp only [Act.put, List.setIfInBounds_toArray, List.set_cons_succ, List.set_cons_zero]
    refine planC_read _ (hi_of HO rfl) rfl rfl (fun w' hE => by (repeat (with_reducible replace hE := Ext.unD hE)); have hcE := hE.hc; clear hE; go_simp; rfl) ?_
    simp only [Act.put, List.setIfInBounds_toArray, List.set_cons_succ, List.set_cons_zero]
    refine planC_calm _ (hi_of HO rfl) rfl (fun w' => by go_simp; rfl) ?_
    simp only [Act.put, List.setIfInBounds_toArray, List.set_cons_succ, List.set_cons_zero]
    refine planC_read _ (hi_of HO rfl) rfl rfl (fun w' hE => by have hL := HL.out w' (Ext.trans _ _ _ (by (repeat (first | exact Ext.refl _ | apply Ext.drew_left | apply Ext.drew | apply Ext.alloc))) hE); clear hE; go_simp; rfl) ?_
    simp only [Act.put, List.setIfInBounds_toArray, List.set_cons_succ, List.set_cons_zero]
    refine planC_calm _ (hi_of HO rfl) rfl (fun w' => by go_simp; rfl) ?_
    simp only [Act.put, List.setIfInBounds_toArray, List.set_cons_succ, List.set_cons_zero]
    refine planC_calm _ (hi_of HO rfl) rfl (fun w' => by go_simp; rfl) ?_
    simp only [Act.put, List.setIfInBounds_toArray, List.set_cons_succ, List.set_cons_zero]
    refine planC_calm _ (hi_of HO rfl) rfl (fun w' => by go_simp; rfl) ?_
    simp only [Act.put, List.setIfInBounds_toArray, List.set_cons_succ, List.set_cons_zero]
    refine planC_loud1 (hi_of HO rfl) rfl ?_
    go_simp
    refine ⟨by (repeat (first | exact Ext.refl _ | apply Ext.drew_left | apply Ext.drew | apply Ext.alloc)), ?_⟩
    refine planC_loud1 (hi_of HO rfl) rfl ?_
    go_simp
    skip
    refine planC_calm _ (hi_of HO rfl) rfl (fun w' => by go_simp; rfl) ?_
    simp only [Act.put, List.setIfInBounds_toArray, List.set_cons_succ, List.set_cons_zero]
    refine planC_done ?fin101
    go_wp2
    go_ret
    exact ⟨ret_bool (by simp), by (repeat (first | exact Ext.refl _ | apply Ext.drew_left | apply Ext.drew | apply Ext.alloc))⟩
  | some y =>
    simp only [Option.map_some, Option.getD_some, Option.isSome_some] at HL
    have HD := hid_mk (show decide (some y = some x) = decide (y = x) by simp)
    rw [HD.out]
    dsimp only [entV] at HL ⊢
    go_enter Try.func20, Try.ntmps20
    go_wp2_with fail
    refine wp_region_held_planC Ext (fun i => i != 14) (fun i => [0, 1, 2, 4, 6, 8, 10, 11, 12, 15].contains i) (.quiet 0 (.quiet 1 (.quiet 2 (.quiet 3 (.quiet 4 (.quiet 5 (.quiet 6 (.quiet 7 (.quiet 8 (.quiet 9 (.quiet 10 (.quiet 11 (.quiet 12 (.alt 13 (.alt 14 (.quiet 15 .done) .stop) .stop)))))))))))))) (by kernel_rfl) (by kernel_rfl) Ext.refl Ext.trans (by intro c a w d v h; cases d <;> exact h) (fun ops HO => ?_)
    refine planC_calm _ (hi_of HO rfl) rfl (fun w' => by go_simp; rfl) ?_
    simp only [Act.put, List.setIfInBounds_toArray, List.set_cons_succ, List.set_cons_zero]
    refine planC_calm _ (hi_of HO rfl) rfl (fun w' => by go_simp; rfl) ?_
    simp only [Act.put, List.setIfInBounds_toArray, List.set_cons_succ, List.set_cons_zero]
    refine planC_calm _ (hi_of HO rfl) rfl (fun w' => by go_simp; rfl) ?_
    simp only [Act.put, List.setIfInBounds_toArray, List.set_cons_succ, List.set_cons_zero]
    refine planC_read _ (hi_of HO rfl) rfl rfl (fun w' hE => by (repeat (with_reducible replace hE := Ext.unD hE)); have hcE := hE.hc; clear hE; go_simp; rfl) ?_
    simp only [Act.put, List.setIfInBounds_toArray, List.set_cons_succ, List.set_cons_zero]
    refine planC_calm _ (hi_of HO rfl) rfl (fun w' => by go_simp; rfl) ?_
    simp only [Act.put, List.setIfInBounds_toArray, List.set_cons_succ, List.set_cons_zero]
    refine planC_read _ (hi_of HO rfl) rfl rfl (fun w' hE => by (repeat (with_reducible replace hE := Ext.unD hE)); have hcE := hE.hc; clear hE; go_simp; rfl) ?_
    simp only [Act.put, List.setIfInBounds_toArray, List.set_cons_succ, List.set_cons_zero]
    refine planC_calm _ (hi_of HO rfl) rfl (fun w' => by go_simp; rfl) ?_
    simp only [Act.put, List.setIfInBounds_toArray, List.set_cons_succ, List.set_cons_zero]
    refine planC_read _ (hi_of HO rfl) rfl rfl (fun w' hE => by (repeat (with_reducible replace hE := Ext.unD hE)); have hcE := hE.hc; clear hE; go_simp; rfl) ?_
    simp only [Act.put, List.setIfInBounds_toArray, List.set_cons_succ, List.set_cons_zero]
    refine planC_calm _ (hi_of HO rfl) rfl (fun w' => by go_simp; rfl) ?_
    simp only [Act.put, List.setIfInBounds_toArray, List.set_cons_succ, List.set_cons_zero]
    refine planC_read _ (hi_of HO rfl) rfl rfl (fun w' hE => by have hL := HL.out w' (Ext.trans _ _ _ (by (repeat (first | exact Ext.refl _ | apply Ext.drew_left | apply Ext.drew | apply Ext.alloc))) hE); clear hE; go_simp; rfl) ?_
    simp only [Act.put, List.setIfInBounds_toArray, List.set_cons_succ, List.set_cons_zero]
    refine planC_calm _ (hi_of HO rfl) rfl (fun w' => by go_simp; rfl) ?_
    simp only [Act.put, List.setIfInBounds_toArray, List.set_cons_succ, List.set_cons_zero]
    refine planC_calm _ (hi_of HO rfl) rfl (fun w' => by go_simp; rfl) ?_
    simp only [Act.put, List.setIfInBounds_toArray, List.set_cons_succ, List.set_cons_zero]
    refine planC_calm _ (hi_of HO rfl) rfl (fun w' => by go_simp; rfl) ?_
    simp only [Act.put, List.setIfInBounds_toArray, List.set_cons_succ, List.set_cons_zero]
    refine planC_loud1 (hi_of HO rfl) rfl ?_
    go_simp
    refine ⟨by (repeat (first | exact Ext.refl _ | apply Ext.drew_left | apply Ext.drew | apply Ext.alloc)), ?_⟩
    refine planC_loud1 (hi_of HO rfl) rfl ?_
    go_simp
    skip
    refine planC_calm _ (hi_of HO rfl) rfl (fun w' => by go_simp; rfl) ?_
    simp only [Act.put, List.setIfInBounds_toArray, List.set_cons_succ, List.set_cons_zero]
    refine planC_done ?fin102
    go_wp2
    go_ret
    exact ⟨rfl, by (repeat (first | exact Ext.refl _ | apply Ext.drew_left | apply Ext.drew | apply Ext.alloc))⟩
end Go.Proofs.Ytiimoaplhhnklaa
