/- Judging: which of two entries is best; what a list may be; what a Config may be. Judging: merge's Max: the best of each pair. -/
import Derived.Test.YtokcgnbjkbhmiaaDoorMHS
import Derived.Test.YtokcgnbjkbhmiaaDoorMHE
import Derived.Test.YtokcgnbjkbhmiaaDoorMReg4
import Derived.Test.YtokcgnbjkbhmiaaDoorMHP
namespace Go.Proofs.YtokcgnbjkbhmiaaDoor
open Go.RowKit
set_option maxHeartbeats 4000000
set_option maxRecDepth 100000
set_option linter.unusedSimpArgs false
set_option linter.unusedVariables false
theorem en_mThere : Enters Tryd.prog 140 := ⟨_, Tryd.func140, by kernel_rfl, rfl⟩
theorem en_r9None : Enters Tryd.prog 89 := ⟨_, Tryd.func89, by kernel_rfl, rfl⟩
theorem en_r3Best : Enters Tryd.prog 91 := ⟨_, Tryd.func91, by kernel_rfl, rfl⟩
theorem neq_ver (w : World) (c n c' n' : Int) : (binOp .neq 55 (.agg #[.int .i64 c, .int .i64 n]) (.agg #[.int .i64 c', .int .i64 n'])).run Tryd.prog w = .ok (.bool (decide (¬ (c = c' ∧ n = n')))) w := by
  go_simp
  by_cases h1 : c = c' <;> by_cases h2 : n = n' <;> simp [*]
attribute [local go_sem ↓] eql_ver neq_ver
theorem gen_callsJ {P : Program} {f : FuncId} {args : Array Value} {w : World} {Q : Ending → World → Prop} (R : World → Prop) (h0 : R w) (h : ∀ W, R W → Calls P f args W Q) : Calls P f args w Q := h w h0
def thereE (e : Ent) : Bool := !decide (e.ctr = 0) || !decide (e.node = 0)
theorem there_any (e : Ent) (w : World) : Calls Tryd.prog 140 #[entV e] w fun r w' => r = .returned (.bool (thereE e)) ∧ Ext w w' := by
  unfold thereE
  go_enter Tryd.func140, Tryd.ntmps140
  go_wp2
  go_ret
  exact ⟨rfl, by (repeat (first | exact Ext.refl _ | apply Ext.drew_left | apply Ext.drew | apply Ext.alloc))⟩
theorem none_any (e : Ent) (w : World) : Calls Tryd.prog 89 #[entV e] w fun r w' => r = .returned (.bool (decide (e.ctr = 0))) ∧ Ext w w' := by
  go_enter Tryd.func89, Tryd.ntmps89
  go_wp2
  go_ret
  exact ⟨rfl, by (repeat (first | exact Ext.refl _ | apply Ext.drew_left | apply Ext.drew | apply Ext.alloc))⟩
def bestE (a b : Ent) : Ent := if newer b a = true then b else a
theorem r3Best_any (a b : Ent) (w : World) : Calls Tryd.prog 91 #[entV a, entV b] w fun r w' => r = .returned (entV (bestE a b)) ∧ Ext w w' := by
  obtain ⟨nw, hnw⟩ : ∃ nw, newer b a = nw := ⟨_, rfl⟩
  have HN := hid_mk (show (if nw = true then b else a) = bestE a b by rw [← hnw]; rfl)
  have HNW := hid_mk hnw
  obtain ⟨r, hr⟩ : ∃ r, bestE a b = r := ⟨_, rfl⟩
  rw [hr] at HN ⊢
  clear hr hnw
  go_enter Tryd.func91, Tryd.ntmps91
  go_wp2_with fail
  refine gen_callsJ (fun W => Ext w W ∧ EntAt W w.heap.size 0 a ∧ EntAt W (w.heap.size + 1) 0 b ∧ W.heap[w.heap.size + 1 + 1]? = some (.cells #[.string ⟨#[]⟩, .int .i64 0, .int .i64 0, .string ⟨#[]⟩, .bool false] 57 (0, 0))) ⟨by (repeat (first | exact Ext.refl _ | apply Ext.drew_left | apply Ext.drew | apply Ext.alloc)), ⟨by go_simp, by go_simp, by go_simp, by go_simp, by go_simp⟩, ⟨by go_simp, by go_simp, by go_simp, by go_simp, by go_simp⟩, by have h := heap_alloc_new ((w.alloc (.cells #[.string a.key, .int .i64 a.ctr, .int .i64 a.node, .string a.val, .bool a.dead] 57)).alloc (.cells #[.string b.key, .int .i64 b.ctr, .int .i64 b.node, .string b.val, .bool b.dead] 57)) (.cells #[.string ⟨#[]⟩, .int .i64 0, .int .i64 0, .string ⟨#[]⟩, .bool false] 57); simpa only [World.size_alloc] using h⟩ ?_
  rintro W1 ⟨hx1, ha1, hb1, hc1⟩
  have HX1 := hid_mk hx1
  have HAB := hid_mk (And.intro ha1 (And.intro hb1 hc1))
  clear hx1 ha1 hb1 hc1
  refine (r3Newer_any b a W1).mono ?_
  rintro e W2 ⟨rfl, hx2⟩
  rw [HNW.out]
  have HX2 := hid_mk (Ext.trans _ _ _ HX1.out hx2)
  obtain ⟨a0, a1, a2, a3, a4⟩ := HAB.out.1.ext hx2
  obtain ⟨b0, b1, b2, b3, b4⟩ := HAB.out.2.1.ext hx2
  have hcb := (hx2.below.block _ (Array.getElem?_eq_some_iff.1 HAB.out.2.2).1).trans HAB.out.2.2
  have hcl : w.heap.size + 1 + 1 < W2.heap.size := (Array.getElem?_eq_some_iff.1 hcb).1
  have z0 : ∀ i, i < 5 → W2.frozen? ⟨w.heap.size + 1 + 1, i, none⟩ = false := fun i _ => by simp [World.frozen?, hcb]
  have c0 : W2.cell? ⟨w.heap.size + 1 + 1, 0, none⟩ = some (.string ⟨#[]⟩) := by simp [World.cell?, hcb]
  have c1 : W2.cell? ⟨w.heap.size + 1 + 1, 1, none⟩ = some (.int .i64 0) := by simp [World.cell?, hcb]
  have c2 : W2.cell? ⟨w.heap.size + 1 + 1, 2, none⟩ = some (.int .i64 0) := by simp [World.cell?, hcb]
  have c3 : W2.cell? ⟨w.heap.size + 1 + 1, 3, none⟩ = some (.string ⟨#[]⟩) := by simp [World.cell?, hcb]
  have c4 : W2.cell? ⟨w.heap.size + 1 + 1, 4, none⟩ = some (.bool false) := by simp [World.cell?, hcb]
  have f0 := z0 0 (by omega)
  have f1 := z0 1 (by omega)
  have f2 := z0 2 (by omega)
  have f3 := z0 3 (by omega)
  have f4 := z0 4 (by omega)
  have hl0 := cell_lt a0
  have hl1 := cell_lt b0
  clear hx2 z0 hcb
  cases nw with
  | true =>
    obtain rfl : b = r := HN.out
    go_wp2
    refine bodyPost_ret (v := entV b) (by unfold results; rw [Tryd.results91]; go_simp; first | done | rfl) rfl ⟨rfl, ?_⟩
    exact Xl.ext HX2.out (L := [w.heap.size + 1 + 1]) ((((((Xl.refl W2).set (by simp)).set (by simp)).set (by simp)).set (by simp)).set (by simp)) (by simp; omega)
  | false =>
    obtain rfl : a = r := HN.out
    go_wp2
    refine bodyPost_ret (v := entV a) (by unfold results; rw [Tryd.results91]; go_simp; first | done | rfl) rfl ⟨rfl, ?_⟩
    exact Xl.ext HX2.out (L := [w.heap.size + 1 + 1]) ((((((Xl.refl W2).set (by simp)).set (by simp)).set (by simp)).set (by simp)).set (by simp)) (by simp; omega)
/-- May a node hold these? -/
def heldE (l : List Ent) : Int := if mChk l = 0 ∧ 256 < l.length then 80 else mChk l
def rightB (b l : Int) : Bool := decide (2 ≤ b ∧ b ≤ 16 ∧ 1 ≤ l ∧ l ≤ 32)
end Go.Proofs.YtokcgnbjkbhmiaaDoor
namespace Go.Proofs.YtokcgnbjkbhmiaaDoor
open Go.RowKit Go.Shelf
set_option maxHeartbeats 4000000
set_option maxRecDepth 100000
set_option linter.unusedSimpArgs false
set_option linter.unusedVariables false
attribute [local go_sem] Oper.semAt_some
attribute [-go_sem] Builtin.append_

def mBest (p : Ent × Ent) : Ent := bestE (if thereE p.1 = true then p.1 else p.2) p.2
def chk2 (a b : List Ent) : Int := if mChk a ≠ 0 then mChk a else mChk b
def maxR (a b : List Ent) : List Ent := if chk2 a b = 0 then (prs a b).map mBest else []
theorem blk_kept {X Y : World} {row : Option Nat} {k : Nat} {o : Obj} (h : X.heap[k]? = some o) (hc : o.isCells = true) (hg : X.grownBy Y row) (hr : ∀ r, row = some r → ∃ o : Obj, X.heap[r]? = some o ∧ o.isCells = false) : Y.heap[k]? = some o := by
  refine (hg.block k (Array.getElem?_eq_some_iff.1 h).1 (fun e => ?_)).trans h
  obtain ⟨o', h1, h2⟩ := hr k (by rw [e])
  rw [h] at h1
  cases h1
  rw [hc] at h2
  cases h2
theorem OwEn.kept {X Y : World} {row : Option Nat} {B : Nat} {v : Value} {l : List Ent} (h : OwEn X B v l) (hg : X.grownBy Y row) (hr : ∀ r, row = some r → ∃ o : Obj, X.heap[r]? = some o ∧ o.isCells = false) : OwEn Y B v l := by
  rcases h.2 with ⟨e1, e2⟩ | ⟨g, cap, cur, e1, e2, e3, e4⟩
  · exact ⟨h.1, .inl ⟨e1, e2⟩⟩
  · exact ⟨h.1, .inr ⟨g, cap, cur, e1, e2, blk_kept e3 rfl hg hr, e4⟩⟩
theorem mPairs_new (av bv : Value) (w : World) (h1 : ∃ a n c, av = .slice a n c) (h2 : ∃ a n c, bv = .slice a n c) :
    Calls Tryd.prog 139 #[av, bv] w fun e w' => ∃ ab bb, e = .returned (.func (.func 149) #[] #[.pointer (some ⟨ab, 0, none⟩), .pointer (some ⟨bb, 0, none⟩)]) ∧
      w'.cell? ⟨ab, 0, none⟩ = some av ∧ w'.cell? ⟨bb, 0, none⟩ = some bv ∧ (w.heap.size ≤ ab ∧ w.heap.size ≤ bb) ∧ Ext w w' := by
  obtain ⟨a, n, c, rfl⟩ := h1
  obtain ⟨a', n', c', rfl⟩ := h2
  go_enter Tryd.func139, Tryd.ntmps139
  go_wp2
  go_ret
  exact ⟨_, _, rfl, by go_simp, by go_simp, by simp, by (repeat (first | exact Ext.refl _ | apply Ext.drew_left | apply Ext.drew | apply Ext.alloc))⟩
theorem xl_grownB {W W' : World} {b : Option Nat} (h : W.grownBy W' b) : Xl b.toList W W' := ⟨h.os, h.tape, h.output, h.size, fun k hk hn => h.block k hk (fun e => hn (by rw [← e]; simp))⟩
theorem keepsFrom_own {B n : Nat} {v : Value} {l : List Ent} {X Y : World} (h : OwEn X n v l) (hg : X.grownBy Y v.ownBlock) : KeepsFrom B X Y := ⟨hg.size, fun k o h1 h2 h3 => by
  refine (hg.block k (Array.getElem?_eq_some_iff.1 h2).1 (fun e => ?_)).trans h2
  rcases h.2 with ⟨e1, e2⟩ | ⟨g, cap, cur, e1, e2, e3, e4⟩
  · rw [e1] at e; cases e
  · rw [e1] at e
    cases e
    rw [e3] at h2
    cases h2
    cases h3⟩
/-- Within Max: the list so far, in a box. -/
structure MI (w : World) (n q : Nat) (l : List Ent) (v : Value) (X : World) : Prop where
  bl : Below w.heap.size w X
  lo : w.heap.size ≤ q
  ln : w.heap.size ≤ n
  sz : n ≤ X.heap.size
  bx : Boxed X q 22 v
  ow : OwEn X n v l
  ne : v.ownBlock ≠ some q
theorem MI.own {w : World} {n q : Nat} {l : List Ent} {v : Value} {B : Nat} (hB : w.heap.size ≤ B) : OwnFrom (β := Unit) B (fun _ X => MI w n q l v X) := fun s X Y row h hg hr => by
  have hr' : ∀ r, row = some r → ∃ o : Obj, X.heap[r]? = some o ∧ o.isCells = false := fun r e => (hr r e).2
  exact ⟨ownFrom_below (β := Unit) (Nat.le_refl _) hB s X Y row h.bl hg hr, h.lo, h.ln, Nat.le_trans h.sz hg.size, boxed_own (β := Unit) _ _ (fun _ => _) s X Y row h.bx hg hr', h.ow.kept hg hr', h.ne⟩
theorem MI.ext {w : World} {n q : Nat} {l : List Ent} {v : Value} {X Y : World} (h : MI w n q l v X) (hx : Ext X Y) : MI w n q l v Y :=
  ⟨h.bl.trans (hx.below.mono h.bl.size), h.lo, h.ln, Nat.le_trans h.sz hx.below.size, (hx.below.block _ h.bx.lt).trans h.bx, h.ow.ext hx, h.ne⟩
theorem MI.own_lt {w : World} {n q : Nat} {l : List Ent} {v : Value} {X : World} (h : MI w n q l v X) : ∀ g, v.ownBlock = some g → g < X.heap.size := fun g e => (World.ownsRow.lt h.ow g e).2
theorem MI.other {w : World} {n q : Nat} {l : List Ent} {v : Value} {X : World} (h : MI w n q l v X) {B : Nat} (hB : q < B) (hv : ∀ g, v.ownBlock = some g → g < B) {o : Nat} {u : Value} : MI w n q l v (X.setCell ⟨B, o, none⟩ u) :=
  have hlo := h.lo
  have hx : Xl [B] X (X.setCell ⟨B, o, none⟩ u) := (Xl.refl X).set (by simp)
  ⟨h.bl.setCell (p := ⟨B, o, none⟩) (Nat.le_trans hlo (Nat.le_of_lt hB)) _, h.lo, h.ln, Nat.le_trans h.sz hx.size, (Below.heap_setCell _ _ _ _ (by rintro rfl; exact Nat.lt_irrefl _ hB)).trans h.bx, h.ow.xl hx (fun g e hm => by have := hv g e; simp at hm; omega), h.ne⟩
theorem MI.app {w : World} {n q : Nat} {l : List Ent} {v v' : Value} {X Y Z : World} {e : Ent} (h : MI w n q l v X) (hx : Ext X Y) (hg : Y.grownBy Z v.ownBlock) (ho : OwEn Z n v' (l ++ [e])) (hob : v'.ownBlock = v.ownBlock ∨ v'.ownBlock = some Y.heap.size) :
    MI w n q (l ++ [e]) v' (Z.setCell ⟨q, 0, none⟩ v') ∧ Boxed Z q 22 v ∧ KeepsFrom n X (Z.setCell ⟨q, 0, none⟩ v') ∧ BelowX n [q] X (Z.setCell ⟨q, 0, none⟩ v') := by
  have hy := h.ext hx
  have hln := h.ln
  have hbx : Boxed Z q 22 v := (hg.block q hy.bx.lt (fun e => h.ne e.symm)).trans hy.bx
  have hne : v'.ownBlock ≠ some q := by
    rcases hob with e | e
    · rw [e]; exact h.ne
    · rw [e]; intro e'; cases e'; exact Nat.lt_irrefl _ hy.bx.lt
  have hlow : Below w.heap.size w Z := by
    have hsz := hy.bl.size
    refine ⟨hg.os.trans hy.bl.os, hg.tape.trans hy.bl.tape, hg.output.trans hy.bl.output, Nat.le_trans hsz hg.size, fun k hk => ?_⟩
    refine (hg.block k (by omega) (fun e => ?_)).trans (hy.bl.block k hk)
    have := (World.ownsRow.lt hy.ow k e.symm).1
    omega
  have hx2 : Xl [q] Z (Z.setCell ⟨q, 0, none⟩ v') := (Xl.refl Z).set (by simp)
  refine ⟨⟨hlow.setCell h.lo _, h.lo, h.ln, Nat.le_trans (Nat.le_trans hy.sz hg.size) hx2.size, hbx.set _, ho.xl hx2 (fun g e hm => hne (by simp at hm; rw [e, hm])), hne⟩, hbx, ((keepsFrom_ext hx).trans (keepsFrom_own hy.ow hg)).trans ((KeepsOthers.setCell _ _ _).from _), ?_⟩
  have h1 : BelowX n [q] X Y := .ofXl (Xl.of hx) h.sz
  have h2 : BelowX n [q] Y Z := ⟨hg.os, hg.tape, hg.output, hg.size, fun k hk hn => hg.block k (Nat.lt_of_lt_of_le hk hy.sz) (fun e => by have := (World.ownsRow.lt hy.ow k e.symm).1; omega)⟩
  exact (h1.trans h2).setCell (.inr (by simp))
end Go.Proofs.YtokcgnbjkbhmiaaDoor
