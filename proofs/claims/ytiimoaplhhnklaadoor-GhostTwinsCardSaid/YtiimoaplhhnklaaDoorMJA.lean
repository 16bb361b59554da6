/- Judging: which of two entries is best; what a list may be; what a Config may be. Judging: merge's Max: the best of each pair. Judging: the document's Max. -/
import Derived.Test.YtiimoaplhhnklaaDoorHS
import Derived.Test.YtiimoaplhhnklaaDoorHH
import Derived.Test.YtiimoaplhhnklaaDoorReg5
import Derived.Test.YtiimoaplhhnklaaDoorHP
namespace Go.Proofs.YtiimoaplhhnklaaDoor
open Go.RowKit
set_option maxHeartbeats 4000000
set_option maxRecDepth 100000
set_option linter.unusedSimpArgs false
set_option linter.unusedVariables false
theorem en_mThere : Enters Tryd.prog 29 := ⟨_, Tryd.func29, by kernel_rfl, rfl⟩
theorem en_r9None : Enters Tryd.prog 36 := ⟨_, Tryd.func36, by kernel_rfl, rfl⟩
theorem en_iBest : Enters Tryd.prog 33 := ⟨_, Tryd.func33, by kernel_rfl, rfl⟩
theorem en_r3Best : Enters Tryd.prog 37 := ⟨_, Tryd.func37, by kernel_rfl, rfl⟩
theorem en_rHeld : Enters Tryd.prog 21 := ⟨_, Tryd.func21, by kernel_rfl, rfl⟩
theorem en_rRight : Enters Tryd.prog 22 := ⟨_, Tryd.func22, by kernel_rfl, rfl⟩
theorem neq_ver (w : World) (c n c' n' : Int) : (binOp .neq 53 (.agg #[.int .i64 c, .int .i64 n]) (.agg #[.int .i64 c', .int .i64 n'])).run Tryd.prog w = .ok (.bool (decide (¬ (c = c' ∧ n = n')))) w := by
  go_simp
  by_cases h1 : c = c' <;> by_cases h2 : n = n' <;> simp [*]
attribute [local go_sem ↓] eql_ver neq_ver
theorem gen_callsJ {P : Program} {f : FuncId} {args : Array Value} {w : World} {Q : Ending → World → Prop} (R : World → Prop) (h0 : R w) (h : ∀ W, R W → Calls P f args W Q) : Calls P f args w Q := h w h0
def thereE (e : Ent) : Bool := !decide (e.ctr = 0) || !decide (e.node = 0)
theorem there_any (e : Ent) (w : World) : Calls Tryd.prog 29 #[entV e] w fun r w' => r = .returned (.bool (thereE e)) ∧ Ext w w' := by
  unfold thereE
  go_enter Tryd.func29, Tryd.ntmps29
  go_wp2
  go_ret
  exact ⟨rfl, by (repeat (first | exact Ext.refl _ | apply Ext.drew_left | apply Ext.drew | apply Ext.alloc))⟩
theorem none_any (e : Ent) (w : World) : Calls Tryd.prog 36 #[entV e] w fun r w' => r = .returned (.bool (decide (e.ctr = 0))) ∧ Ext w w' := by
  go_enter Tryd.func36, Tryd.ntmps36
  go_wp2
  go_ret
  exact ⟨rfl, by (repeat (first | exact Ext.refl _ | apply Ext.drew_left | apply Ext.drew | apply Ext.alloc))⟩
def bestE (a b : Ent) : Ent := if newer b a = true then b else a
theorem iBest_any (a b : Ent) (w : World) : Calls Tryd.prog 33 #[entV a, entV b] w fun r w' => r = .returned (entV (bestE a b)) ∧ Ext w w' := by
  obtain ⟨nw, hnw⟩ : ∃ nw, newer b a = nw := ⟨_, rfl⟩
  have HN := hid_mk (show (if nw = true then b else a) = bestE a b by rw [← hnw]; rfl)
  have HNW := hid_mk hnw
  obtain ⟨r, hr⟩ : ∃ r, bestE a b = r := ⟨_, rfl⟩
  rw [hr] at HN ⊢
  clear hr hnw
  go_enter Tryd.func33, Tryd.ntmps33
  go_wp2_with fail
  refine gen_callsJ (fun W => Ext w W ∧ EntAt W w.heap.size 0 a ∧ EntAt W (w.heap.size + 1) 0 b ∧ W.heap[w.heap.size + 1 + 1]? = some (.cells #[.string ⟨#[]⟩, .int .i64 0, .int .i64 0, .string ⟨#[]⟩, .bool false] 55 (0, 0))) ⟨by (repeat (first | exact Ext.refl _ | apply Ext.drew_left | apply Ext.drew | apply Ext.alloc)), ⟨by go_simp, by go_simp, by go_simp, by go_simp, by go_simp⟩, ⟨by go_simp, by go_simp, by go_simp, by go_simp, by go_simp⟩, by have h := heap_alloc_new ((w.alloc (.cells #[.string a.key, .int .i64 a.ctr, .int .i64 a.node, .string a.val, .bool a.dead] 55)).alloc (.cells #[.string b.key, .int .i64 b.ctr, .int .i64 b.node, .string b.val, .bool b.dead] 55)) (.cells #[.string ⟨#[]⟩, .int .i64 0, .int .i64 0, .string ⟨#[]⟩, .bool false] 55); simpa only [World.size_alloc] using h⟩ ?_
  rintro W1 ⟨hx1, ha1, hb1, hc1⟩
  have HX1 := hid_mk hx1
  have HAB := hid_mk (And.intro ha1 (And.intro hb1 hc1))
  clear hx1 ha1 hb1 hc1
  refine (iNewer_any b a W1).mono ?_
  rintro e W2 ⟨rfl, hx2⟩
  rw [HNW.out]
  have HX2 := hid_mk (Ext.trans _ _ _ HX1.out hx2)
  obtain ⟨a0, a1, a2, a3, a4⟩ := HAB.out.1.ext hx2
  obtain ⟨b0, b1, b2, b3, b4⟩ := HAB.out.2.1.ext hx2
  have hcb := (hx2.below.block _ (Array.getElem?_eq_some_iff.1 HAB.out.2.2).1).trans HAB.out.2.2
  have hcl : w.heap.size + 1 + 1 < W2.heap.size := (Array.getElem?_eq_some_iff.1 hcb).1
  have z0 : ∀ i, i < 5 → W2.frozen? ⟨w.heap.size + 1 + 1, i, none⟩ = false := fun i _ => by simp [World.frozen?, hcb]
  have c0 : W2.cell? ⟨w.heap.size + 1 + 1, 0, none⟩ = some (.string ⟨#[]⟩) := by simp [World.cell?, hcb]
  have c1 : W2.cell? ⟨w.heap.size + 1 + 1, 1, none⟩ = some (.int .i64 0) := by simp [World.cell?, hcb]
  have c2 : W2.cell? ⟨w.heap.size + 1 + 1, 2, none⟩ = some (.int .i64 0) := by simp [World.cell?, hcb]
  have c3 : W2.cell? ⟨w.heap.size + 1 + 1, 3, none⟩ = some (.string ⟨#[]⟩) := by simp [World.cell?, hcb]
  have c4 : W2.cell? ⟨w.heap.size + 1 + 1, 4, none⟩ = some (.bool false) := by simp [World.cell?, hcb]
  have f0 := z0 0 (by omega)
  have f1 := z0 1 (by omega)
  have f2 := z0 2 (by omega)
  have f3 := z0 3 (by omega)
  have f4 := z0 4 (by omega)
  have hl0 := cell_lt a0
  have hl1 := cell_lt b0
  clear hx2 z0 hcb
  cases nw with
  | true =>
    obtain rfl : b = r := HN.out
    go_wp2
    refine bodyPost_ret (v := entV b) (by unfold results; rw [Tryd.results33]; go_simp; first | done | rfl) rfl ⟨rfl, ?_⟩
    exact Xl.ext HX2.out (L := [w.heap.size + 1 + 1]) ((((((Xl.refl W2).set (by simp)).set (by simp)).set (by simp)).set (by simp)).set (by simp)) (by simp; omega)
  | false =>
    obtain rfl : a = r := HN.out
    go_wp2
    refine bodyPost_ret (v := entV a) (by unfold results; rw [Tryd.results33]; go_simp; first | done | rfl) rfl ⟨rfl, ?_⟩
    exact Xl.ext HX2.out (L := [w.heap.size + 1 + 1]) ((((((Xl.refl W2).set (by simp)).set (by simp)).set (by simp)).set (by simp)).set (by simp)) (by simp; omega)
theorem r3Best_any (a b : Ent) (w : World) : Calls Tryd.prog 37 #[entV a, entV b] w fun r w' => r = .returned (entV (bestE a b)) ∧ Ext w w' := by
  obtain ⟨nw, hnw⟩ : ∃ nw, newer b a = nw := ⟨_, rfl⟩
  have HN := hid_mk (show (if nw = true then b else a) = bestE a b by rw [← hnw]; rfl)
  have HNW := hid_mk hnw
  obtain ⟨r, hr⟩ : ∃ r, bestE a b = r := ⟨_, rfl⟩
  rw [hr] at HN ⊢
  clear hr hnw
  go_enter Tryd.func37, Tryd.ntmps37
  go_wp2_with fail
  refine gen_callsJ (fun W => Ext w W ∧ EntAt W w.heap.size 0 a ∧ EntAt W (w.heap.size + 1) 0 b ∧ W.heap[w.heap.size + 1 + 1]? = some (.cells #[.string ⟨#[]⟩, .int .i64 0, .int .i64 0, .string ⟨#[]⟩, .bool false] 55 (0, 0))) ⟨by (repeat (first | exact Ext.refl _ | apply Ext.drew_left | apply Ext.drew | apply Ext.alloc)), ⟨by go_simp, by go_simp, by go_simp, by go_simp, by go_simp⟩, ⟨by go_simp, by go_simp, by go_simp, by go_simp, by go_simp⟩, by have h := heap_alloc_new ((w.alloc (.cells #[.string a.key, .int .i64 a.ctr, .int .i64 a.node, .string a.val, .bool a.dead] 55)).alloc (.cells #[.string b.key, .int .i64 b.ctr, .int .i64 b.node, .string b.val, .bool b.dead] 55)) (.cells #[.string ⟨#[]⟩, .int .i64 0, .int .i64 0, .string ⟨#[]⟩, .bool false] 55); simpa only [World.size_alloc] using h⟩ ?_
  rintro W1 ⟨hx1, ha1, hb1, hc1⟩
  have HX1 := hid_mk hx1
  have HAB := hid_mk (And.intro ha1 (And.intro hb1 hc1))
  clear hx1 ha1 hb1 hc1
  refine (r3Newer_any b a W1).mono ?_
  rintro e W2 ⟨rfl, hx2⟩
  rw [HNW.out]
  have HX2 := hid_mk (Ext.trans _ _ _ HX1.out hx2)
  obtain ⟨a0, a1, a2, a3, a4⟩ := HAB.out.1.ext hx2
  obtain ⟨b0, b1, b2, b3, b4⟩ := HAB.out.2.1.ext hx2
  have hcb := (hx2.below.block _ (Array.getElem?_eq_some_iff.1 HAB.out.2.2).1).trans HAB.out.2.2
  have hcl : w.heap.size + 1 + 1 < W2.heap.size := (Array.getElem?_eq_some_iff.1 hcb).1
  have z0 : ∀ i, i < 5 → W2.frozen? ⟨w.heap.size + 1 + 1, i, none⟩ = false := fun i _ => by simp [World.frozen?, hcb]
  have c0 : W2.cell? ⟨w.heap.size + 1 + 1, 0, none⟩ = some (.string ⟨#[]⟩) := by simp [World.cell?, hcb]
  have c1 : W2.cell? ⟨w.heap.size + 1 + 1, 1, none⟩ = some (.int .i64 0) := by simp [World.cell?, hcb]
  have c2 : W2.cell? ⟨w.heap.size + 1 + 1, 2, none⟩ = some (.int .i64 0) := by simp [World.cell?, hcb]
  have c3 : W2.cell? ⟨w.heap.size + 1 + 1, 3, none⟩ = some (.string ⟨#[]⟩) := by simp [World.cell?, hcb]
  have c4 : W2.cell? ⟨w.heap.size + 1 + 1, 4, none⟩ = some (.bool false) := by simp [World.cell?, hcb]
  have f0 := z0 0 (by omega)
  have f1 := z0 1 (by omega)
  have f2 := z0 2 (by omega)
  have f3 := z0 3 (by omega)
  have f4 := z0 4 (by omega)
  have hl0 := cell_lt a0
  have hl1 := cell_lt b0
  clear hx2 z0 hcb
  cases nw with
  | true =>
    obtain rfl : b = r := HN.out
    go_wp2
    refine bodyPost_ret (v := entV b) (by unfold results; rw [Tryd.results37]; go_simp; first | done | rfl) rfl ⟨rfl, ?_⟩
    exact Xl.ext HX2.out (L := [w.heap.size + 1 + 1]) ((((((Xl.refl W2).set (by simp)).set (by simp)).set (by simp)).set (by simp)).set (by simp)) (by simp; omega)
  | false =>
    obtain rfl : a = r := HN.out
    go_wp2
    refine bodyPost_ret (v := entV a) (by unfold results; rw [Tryd.results37]; go_simp; first | done | rfl) rfl ⟨rfl, ?_⟩
    exact Xl.ext HX2.out (L := [w.heap.size + 1 + 1]) ((((((Xl.refl W2).set (by simp)).set (by simp)).set (by simp)).set (by simp)).set (by simp)) (by simp; omega)
/-- May a node hold these? -/
def heldE (l : List Ent) : Int := if mChk l = 0 ∧ 256 < l.length then 80 else mChk l
theorem rfheld_any {w : World} (v : Value) (l : List Ent) (hs : EntSl w v l) : Calls Tryd.prog 21 #[v] w fun r w' => r = .returned (.int .i64 (heldE l)) ∧ Ext w w' := by
  have HS := hid_mk hs
  obtain ⟨a, c, rfl, -⟩ := hs
  obtain ⟨z, hz⟩ : ∃ z, mChk l = z := ⟨_, rfl⟩
  have HZ := hid_mk hz
  obtain ⟨r, hr⟩ : ∃ r, heldE l = r := ⟨_, rfl⟩
  have HR := hid_mk (show (if z = 0 ∧ 256 < l.length then 80 else z) = r by rw [← hr, ← hz]; rfl)
  rw [hr]
  clear hz hr
  go_enter Tryd.func21, Tryd.ntmps21
  go_wp2_with fail
  refine (r9Check_any l _ _ HS.out).mono ?_
  rintro e w1 ⟨rfl, hx1⟩
  rw [HZ.out]
  have HX1 := hid_mk hx1
  clear hx1
  by_cases h0 : z = 0
  · subst h0
    by_cases hl : 256 < l.length
    · have hl' : (256 : Int) < (l.length : Int) := by omega
      rw [if_pos ⟨rfl, hl⟩] at HR
      clear hl
      go_wp2
      go_ret
      exact ⟨ret_int HR.out, HX1.out⟩
    · have hl' : ¬ (256 : Int) < (l.length : Int) := by omega
      rw [if_neg (by rintro ⟨-, h⟩; exact hl h)] at HR
      clear hl
      go_wp2
      go_ret
      exact ⟨ret_int HR.out, HX1.out⟩
  · have hb : (z == 0) = false := by rw [beq_eq_false_iff_ne]; exact h0
    rw [if_neg (by rintro ⟨h, -⟩; exact h0 h)] at HR
    go_wp2
    all_goals go_ret
    all_goals exact ⟨ret_int HR.out, HX1.out⟩
def rightB (b l : Int) : Bool := decide (2 ≤ b ∧ b ≤ 16 ∧ 1 ≤ l ∧ l ≤ 32)
theorem rright_any (b l : Int) (w : World) : Calls Tryd.prog 22 #[.int .i64 b, .int .i64 l] w fun r w' => r = .returned (.bool (rightB b l)) ∧ Ext w w' := by
  unfold rightB
  go_enter Tryd.func22, Tryd.ntmps22
  go_wp2
  all_goals go_ret
  all_goals exact ⟨ret_bool (by simp_all; try (intros; omega)), by (repeat (first | exact Ext.refl _ | apply Ext.drew_left | apply Ext.drew | apply Ext.alloc))⟩
end Go.Proofs.YtiimoaplhhnklaaDoor
namespace Go.Proofs.YtiimoaplhhnklaaDoor
open Go.RowKit Go.Shelf
set_option maxHeartbeats 4000000
set_option maxRecDepth 100000
set_option linter.unusedSimpArgs false
set_option linter.unusedVariables false
attribute [local go_sem] Oper.semAt_some
attribute [-go_sem] Builtin.append_

def mBest (p : Ent × Ent) : Ent := bestE (if thereE p.1 = true then p.1 else p.2) p.2
def chk2 (a b : List Ent) : Int := if mChk a ≠ 0 then mChk a else mChk b
def maxR (a b : List Ent) : List Ent := if chk2 a b = 0 then (prs a b).map mBest else []
theorem blk_kept {X Y : World} {row : Option Nat} {k : Nat} {o : Obj} (h : X.heap[k]? = some o) (hc : o.isCells = true) (hg : X.grownBy Y row) (hr : ∀ r, row = some r → ∃ o : Obj, X.heap[r]? = some o ∧ o.isCells = false) : Y.heap[k]? = some o := by
  refine (hg.block k (Array.getElem?_eq_some_iff.1 h).1 (fun e => ?_)).trans h
  obtain ⟨o', h1, h2⟩ := hr k (by rw [e])
  rw [h] at h1
  cases h1
  rw [hc] at h2
  cases h2
theorem OwEn.kept {X Y : World} {row : Option Nat} {B : Nat} {v : Value} {l : List Ent} (h : OwEn X B v l) (hg : X.grownBy Y row) (hr : ∀ r, row = some r → ∃ o : Obj, X.heap[r]? = some o ∧ o.isCells = false) : OwEn Y B v l := by
  rcases h.2 with ⟨e1, e2⟩ | ⟨g, cap, cur, e1, e2, e3, e4⟩
  · exact ⟨h.1, .inl ⟨e1, e2⟩⟩
  · exact ⟨h.1, .inr ⟨g, cap, cur, e1, e2, blk_kept e3 rfl hg hr, e4⟩⟩
theorem mPairs_new (av bv : Value) (w : World) (h1 : ∃ a n c, av = .slice a n c) (h2 : ∃ a n c, bv = .slice a n c) :
    Calls Tryd.prog 28 #[av, bv] w fun e w' => ∃ ab bb, e = .returned (.func (.func 47) #[] #[.pointer (some ⟨ab, 0, none⟩), .pointer (some ⟨bb, 0, none⟩)]) ∧
      w'.cell? ⟨ab, 0, none⟩ = some av ∧ w'.cell? ⟨bb, 0, none⟩ = some bv ∧ (w.heap.size ≤ ab ∧ w.heap.size ≤ bb) ∧ Ext w w' := by
  obtain ⟨a, n, c, rfl⟩ := h1
  obtain ⟨a', n', c', rfl⟩ := h2
  go_enter Tryd.func28, Tryd.ntmps28
  go_wp2
  go_ret
  exact ⟨_, _, rfl, by go_simp, by go_simp, by simp, by (repeat (first | exact Ext.refl _ | apply Ext.drew_left | apply Ext.drew | apply Ext.alloc))⟩
theorem xl_grownB {W W' : World} {b : Option Nat} (h : W.grownBy W' b) : Xl b.toList W W' := ⟨h.os, h.tape, h.output, h.size, fun k hk hn => h.block k hk (fun e => hn (by rw [← e]; simp))⟩
theorem keepsFrom_own {B n : Nat} {v : Value} {l : List Ent} {X Y : World} (h : OwEn X n v l) (hg : X.grownBy Y v.ownBlock) : KeepsFrom B X Y := ⟨hg.size, fun k o h1 h2 h3 => by
  refine (hg.block k (Array.getElem?_eq_some_iff.1 h2).1 (fun e => ?_)).trans h2
  rcases h.2 with ⟨e1, e2⟩ | ⟨g, cap, cur, e1, e2, e3, e4⟩
  · rw [e1] at e; cases e
  · rw [e1] at e
    cases e
    rw [e3] at h2
    cases h2
    cases h3⟩
/-- Within Max: the list so far, in a box. -/
structure MI (w : World) (n q : Nat) (l : List Ent) (v : Value) (X : World) : Prop where
  bl : Below w.heap.size w X
  lo : w.heap.size ≤ q
  ln : w.heap.size ≤ n
  sz : n ≤ X.heap.size
  bx : Boxed X q 22 v
  ow : OwEn X n v l
  ne : v.ownBlock ≠ some q
theorem MI.own {w : World} {n q : Nat} {l : List Ent} {v : Value} {B : Nat} (hB : w.heap.size ≤ B) : OwnFrom (β := Unit) B (fun _ X => MI w n q l v X) := fun s X Y row h hg hr => by
  have hr' : ∀ r, row = some r → ∃ o : Obj, X.heap[r]? = some o ∧ o.isCells = false := fun r e => (hr r e).2
  exact ⟨ownFrom_below (β := Unit) (Nat.le_refl _) hB s X Y row h.bl hg hr, h.lo, h.ln, Nat.le_trans h.sz hg.size, boxed_own (β := Unit) _ _ (fun _ => _) s X Y row h.bx hg hr', h.ow.kept hg hr', h.ne⟩
theorem MI.ext {w : World} {n q : Nat} {l : List Ent} {v : Value} {X Y : World} (h : MI w n q l v X) (hx : Ext X Y) : MI w n q l v Y :=
  ⟨h.bl.trans (hx.below.mono h.bl.size), h.lo, h.ln, Nat.le_trans h.sz hx.below.size, (hx.below.block _ h.bx.lt).trans h.bx, h.ow.ext hx, h.ne⟩
theorem MI.own_lt {w : World} {n q : Nat} {l : List Ent} {v : Value} {X : World} (h : MI w n q l v X) : ∀ g, v.ownBlock = some g → g < X.heap.size := fun g e => (World.ownsRow.lt h.ow g e).2
theorem MI.other {w : World} {n q : Nat} {l : List Ent} {v : Value} {X : World} (h : MI w n q l v X) {B : Nat} (hB : q < B) (hv : ∀ g, v.ownBlock = some g → g < B) {o : Nat} {u : Value} : MI w n q l v (X.setCell ⟨B, o, none⟩ u) :=
  have hlo := h.lo
  have hx : Xl [B] X (X.setCell ⟨B, o, none⟩ u) := (Xl.refl X).set (by simp)
  ⟨h.bl.setCell (p := ⟨B, o, none⟩) (Nat.le_trans hlo (Nat.le_of_lt hB)) _, h.lo, h.ln, Nat.le_trans h.sz hx.size, (Below.heap_setCell _ _ _ _ (by rintro rfl; exact Nat.lt_irrefl _ hB)).trans h.bx, h.ow.xl hx (fun g e hm => by have := hv g e; simp at hm; omega), h.ne⟩
theorem MI.app {w : World} {n q : Nat} {l : List Ent} {v v' : Value} {X Y Z : World} {e : Ent} (h : MI w n q l v X) (hx : Ext X Y) (hg : Y.grownBy Z v.ownBlock) (ho : OwEn Z n v' (l ++ [e])) (hob : v'.ownBlock = v.ownBlock ∨ v'.ownBlock = some Y.heap.size) :
    MI w n q (l ++ [e]) v' (Z.setCell ⟨q, 0, none⟩ v') ∧ Boxed Z q 22 v ∧ KeepsFrom n X (Z.setCell ⟨q, 0, none⟩ v') ∧ BelowX n [q] X (Z.setCell ⟨q, 0, none⟩ v') := by
  have hy := h.ext hx
  have hln := h.ln
  have hbx : Boxed Z q 22 v := (hg.block q hy.bx.lt (fun e => h.ne e.symm)).trans hy.bx
  have hne : v'.ownBlock ≠ some q := by
    rcases hob with e | e
    · rw [e]; exact h.ne
    · rw [e]; intro e'; cases e'; exact Nat.lt_irrefl _ hy.bx.lt
  have hlow : Below w.heap.size w Z := by
    have hsz := hy.bl.size
    refine ⟨hg.os.trans hy.bl.os, hg.tape.trans hy.bl.tape, hg.output.trans hy.bl.output, Nat.le_trans hsz hg.size, fun k hk => ?_⟩
    refine (hg.block k (by omega) (fun e => ?_)).trans (hy.bl.block k hk)
    have := (World.ownsRow.lt hy.ow k e.symm).1
    omega
  have hx2 : Xl [q] Z (Z.setCell ⟨q, 0, none⟩ v') := (Xl.refl Z).set (by simp)
  refine ⟨⟨hlow.setCell h.lo _, h.lo, h.ln, Nat.le_trans (Nat.le_trans hy.sz hg.size) hx2.size, hbx.set _, ho.xl hx2 (fun g e hm => hne (by simp at hm; rw [e, hm])), hne⟩, hbx, ((keepsFrom_ext hx).trans (keepsFrom_own hy.ow hg)).trans ((KeepsOthers.setCell _ _ _).from _), ?_⟩
  have h1 : BelowX n [q] X Y := .ofXl (Xl.of hx) h.sz
  have h2 : BelowX n [q] Y Z := ⟨hg.os, hg.tape, hg.output, hg.size, fun k hk hn => hg.block k (Nat.lt_of_lt_of_le hk hy.sz) (fun e => by have := (World.ownsRow.lt hy.ow k e.symm).1; omega)⟩
  exact (h1.trans h2).setCell (.inr (by simp))
theorem mMax_any {w : World} (a b : List Ent) (av bv : Value) (hs : EntSl w av a) (hs' : EntSl w bv b) (hla : a.length ≤ 300000000) (hlb : b.length ≤ 300000000) :
    Calls Tryd.prog 16 #[av, bv] w fun e w' => ∃ v, e = .returned (.tuple #[v, .int .i64 (chk2 a b)]) ∧ OwEn w' w.heap.size v (maxR a b) ∧ Ext w w' := by
  have HS := hid_mk (And.intro hs hs')
  have HLL := hid_mk (And.intro hla hlb)
  have HAW := hid_mk (And.intro (fun (q : Nat) (hq : w.heap.size ≤ q) => EAway.of_lt (L := [q]) hs (by simp; exact hq)) (fun (q : Nat) (hq : w.heap.size ≤ q) => EAway.of_lt (L := [q]) hs' (by simp; exact hq)))
  obtain ⟨xa, xc, rfl, -⟩ := hs
  obtain ⟨ya, yc, rfl, -⟩ := hs'
  obtain ⟨z, hz⟩ : ∃ z, chk2 a b = z := ⟨_, rfl⟩
  have HZ := hid_mk hz
  rw [hz]
  clear hla hlb hz
  by_cases hz0 : z = 0
  · subst hz0
    have HMR := hid_mk (show maxR a b = (prs a b).map mBest by rw [maxR, if_pos HZ.out])
    rw [HMR.out]
    refine (callsIn_wide (n := 5)).1 ?_
    refine callsIn_of_wp_marks Tryd.func16 rfl trivial (wpIn_wide.2 (wp_mono ?_ (np_of (Q := _)))) rfl
    simp only [Tryd.ntmps16, List.size_toArray, List.length_cons, List.length_nil, Nat.reduceAdd, Nat.reduceSub, Array.replicate_succ, Array.replicate_zero, List.push_toArray, List.append_toArray, List.nil_append, List.cons_append]
    go_wp2_with fail
    refine (mCheck2_any a b _ _ _ HS.out.1 HS.out.2).mono ?_
    rintro e w1 ⟨rfl, hx1⟩
    rw [show (if mChk a ≠ 0 then mChk a else mChk b) = 0 from HZ.out]
    have HMI1 := hid_mk (show MI w w.heap.size w1.heap.size [] (.slice none 0 0) (w1.alloc (.cells #[.slice none 0 0] 22)) from ⟨(Ext.trans _ _ _ hx1 ((Ext.refl _).alloc _)).below, hx1.below.size, Nat.le_refl _, by have := hx1.below.size; simp; omega, Boxed.new w1 22 (.slice none 0 0), ownE_nil _ _, by simp [Value.ownBlock]⟩)
    obtain ⟨q, hq⟩ : ∃ q, w1.heap.size = q := ⟨_, rfl⟩
    clear hx1
    go_wp2_with fail
    refine (mPairs_new _ _ _ ⟨_, _, _, rfl⟩ ⟨_, _, _, rfl⟩).mono ?_
    rintro e w3 ⟨ab, bb, rfl, hc1, hc2, hfr, hx3⟩
    have HMI3 := hid_mk (show MI w w3.heap.size _ [] (.slice none 0 0) w3 from ⟨(HMI1.out.ext hx3).bl, (HMI1.out.ext hx3).lo, (HMI1.out.ext hx3).bl.size, Nat.le_refl _, (HMI1.out.ext hx3).bx, ownE_nil _ _, (HMI1.out.ext hx3).ne⟩)
    have HAB := hid_mk (And.intro hc1 (And.intro hc2 (And.intro (show ab ≠ q from fun e => by have := HMI1.out.bx.lt; omega) (show bb ≠ q from fun e => by have := HMI1.out.bx.lt; omega))))
    rw [hq] at HMI3
    have hz3 : q < w3.heap.size := HMI3.out.bx.lt
    have hzw : w.heap.size ≤ q := HMI3.out.lo
    clear hc1 hc2 hx3 HMI1 hq
    go_wp2_with fail
    refine gen_act (fun T HT => ?_)
    refine (wpIn_wide (n := 5)).1 ?_
    refine wpIn_rangeFunc_ownH (F := Fence.wide) (n := 5) (encs := fun x : Ent × Ent => #[entV x.1, entV x.2]) rfl (by omega) (gf := 47) (lb := #[.pointer (some ⟨ab, 0, none⟩), .pointer (some ⟨bb, 0, none⟩)]) (by rw [HT.out]; rfl) trivial (enters_of Tryd.func47 (by kernel_rfl) rfl)
      (pairs_stopsX [q] ab bb _ _ a b w3 HAB.out.1 HAB.out.2.1 (HS.out.1.ext (Ext.of HMI3.out.bl)) (HS.out.2.ext (Ext.of HMI3.out.bl)) (by simp; exact HAB.out.2.2.1) (by simp; exact HAB.out.2.2.2) (HAW.out.1 q hzw) (HAW.out.2 q hzw)) belowX_t (belowX_b (by omega)) (Below.refl _ _) (fun _ => rfl)
      (fun pre X => (∃ v, MI w w3.heap.size q (pre.map mBest) v X) ∧ True)
      (fun c pre X => False)
      (fun s X Y row h hg hr => ⟨h.1.imp (fun v hv => MI.own (by omega) () X Y row hv hg hr), trivial⟩)
      (fun c s X Y row h hg hr => h)
      ⟨⟨_, HMI3.out⟩, trivial⟩
      (fun x a' X => ∃ B1 B2 v, X.heap[B1]? = some (.cells (cE x.1).toArray 55 (0, 0)) ∧ EntAt X B2 0 x.2 ∧ Boxed X q 22 v ∧ (∀ g, v.ownBlock = some g → g < B1) ∧ q < B1 ∧ B1 < B2 ∧ w3.heap.size ≤ B1 ∧ Hid (a' = { tmps := ((Array.foldl (fun t (x : Nat × Value) => t.setIfInBounds x.1 x.2) T (#[19, 20].zip #[entV x.1, entV x.2])).setIfInBounds 8 (.pointer (some ⟨B1, 0, none⟩))).setIfInBounds 9 (.pointer (some ⟨B2, 0, none⟩)), defers := [] }))
      (fun x a' _ X Y row hs hg hr => by
        obtain ⟨B1, B2, v, h1, h2, h3, h4⟩ := hs
        exact ⟨B1, B2, v, blk_kept h1 rfl hg (fun r e => (hr r e).2), entAt_own h2 hg (fun r e => (hr r e).2), blk_kept h3 rfl hg (fun r e => (hr r e).2), h4⟩)
      ?assign ?body ?done ?stop
    case assign =>
      rintro lp pre x X K ⟨⟨v, hmi⟩, hB⟩ hK
      rw [fold2, HT.out]
      simp only [List.setIfInBounds_toArray, List.set_cons_succ, List.set_cons_zero]
      gi_wp2
      have hx : Ext X ((X.alloc (.cells #[.string x.1.key, .int .i64 x.1.ctr, .int .i64 x.1.node, .string x.1.val, .bool x.1.dead] 55)).alloc (.cells #[.string x.2.key, .int .i64 x.2.ctr, .int .i64 x.2.node, .string x.2.val, .bool x.2.dead] 55)) := by (repeat (first | exact Ext.refl _ | apply Ext.drew_left | apply Ext.drew | apply Ext.alloc))
      have hb1 := heap_alloc_new X (.cells #[.string x.1.key, .int .i64 x.1.ctr, .int .i64 x.1.node, .string x.1.val, .bool x.1.dead] 55)
      have hb2 := ((Ext.refl (X.alloc (.cells #[.string x.1.key, .int .i64 x.1.ctr, .int .i64 x.1.node, .string x.1.val, .bool x.1.dead] 55))).alloc (.cells #[.string x.2.key, .int .i64 x.2.ctr, .int .i64 x.2.node, .string x.2.val, .bool x.2.dead] 55)).below.block X.heap.size (by simp)
      have hq := hmi.bx.lt
      exact hK _ _ (keepsFrom_ext hx) (.ofXl (Xl.of hx) hmi.sz) ⟨⟨v, hmi.ext hx⟩, trivial⟩ ⟨X.heap.size, X.heap.size + 1, v, hb2.trans hb1, ⟨by go_simp, by go_simp, by go_simp, by go_simp, by go_simp⟩, (hmi.ext hx).bx, hmi.own_lt, hq, Nat.lt_succ_self _, hmi.sz, hid_mk (by rw [fold2, HT.out]; rfl)⟩
    case body =>
      rintro lp pre x a' X hl hr ⟨⟨v, hmi⟩, hB⟩ ⟨B1, B2, v', hb1, hb2, hbv, hvl, hqB, hBB, hB1n, ha⟩ hlt
      obtain rfl : v = v' := by
        have e := hmi.bx.symm.trans hbv
        cases e
        rfl
      rw [ha.out, fold2, HT.out]
      simp only [List.setIfInBounds_toArray, List.set_cons_succ, List.set_cons_zero]
      clear hr ha
      have HSX := hid_mk hmi
      have HB1 := hid_mk hb1
      have HB1N := hid_mk hB1n
      have HB2 := hid_mk hb2
      have HVL := hid_mk hvl
      have hbl1 : B1 < X.heap.size := (Array.getElem?_eq_some_iff.1 hb1).1
      have hbl2 := cell_lt hb2.c0
      have p0 : X.cell? ⟨B1, 0, none⟩ = some (.string x.1.key) := by simp [World.cell?, hb1, cE]
      have p1 : X.cell? ⟨B1, 1, none⟩ = some (.int .i64 x.1.ctr) := by simp [World.cell?, hb1, cE]
      have p2 : X.cell? ⟨B1, 2, none⟩ = some (.int .i64 x.1.node) := by simp [World.cell?, hb1, cE]
      have p3 : X.cell? ⟨B1, 3, none⟩ = some (.string x.1.val) := by simp [World.cell?, hb1, cE]
      have p4 : X.cell? ⟨B1, 4, none⟩ = some (.bool x.1.dead) := by simp [World.cell?, hb1, cE]
      clear hmi hb1 hb2 hbv hvl
      obtain ⟨th, hth⟩ : ∃ th, thereE x.1 = th := ⟨_, rfl⟩
      have HTH := hid_mk hth
      clear hth
      gi_wp2_with fail
      refine ⟨trivial, CallsIn.mono (calls_round (there_any x.1 X)) ?_⟩
      rintro e X2 ⟨rfl, hx2⟩
      rw [HTH.out]
      have HX2 := hid_mk hx2
      have HE2 := hid_mk (HB2.out.ext hx2)
      replace p0 := cell_ext hx2 p0
      replace p1 := cell_ext hx2 p1
      replace p2 := cell_ext hx2 p2
      replace p3 := cell_ext hx2 p3
      replace p4 := cell_ext hx2 p4
      have HPL := hid_mk (show pre.length ≤ 600000000 by have := prs_len a b; have := HLL.out; omega)
      clear hx2
      cases th with
      | true =>
        obtain ⟨be, hbe⟩ : ∃ be, bestE x.1 x.2 = be := ⟨_, rfl⟩
        have HBE := hid_mk hbe
        have HMB := hid_mk (show mBest x = be by rw [mBest, if_pos HTH.out]; exact hbe)
        clear hbe
        gi_wp2_with fail
        refine gen_wpIn (fun W => MI w w3.heap.size q (pre.map mBest) v W ∧ EntAt W B1 0 x.1 ∧ EntAt W B2 0 x.2 ∧ KeepsFrom w3.heap.size X W ∧ BelowX w3.heap.size [q] X W) ⟨HSX.out.ext HX2.out, ⟨p0, p1, p2, p3, p4⟩, HE2.out, keepsFrom_ext HX2.out, .ofXl (Xl.of HX2.out) HSX.out.sz⟩ ?_
        rintro Y ⟨hmi, ⟨y0, y1, y2, y3, y4⟩, ⟨z0, z1, z2, z3, z4⟩, hkf, hbx⟩
        have HY := hid_mk hmi
        have HKB := hid_mk (And.intro hkf hbx)
        have c0 := hmi.bx.cell
        have cl := cell_lt c0
        have yl := cell_lt y0
        have zl := cell_lt z0
        clear hmi hkf hbx
        have HNQ := hid_mk (show q ∉ v.ownBlock.toList from fun hm => HY.out.ne (by simpa using hm))
        have HN1 := hid_mk (show B1 ∉ v.ownBlock.toList from fun hm => by have := HVL.out B1 (by simpa using hm); omega)
        have HN2 := hid_mk (show B2 ∉ v.ownBlock.toList from fun hm => by have := HVL.out B2 (by simpa using hm); omega)
        obtain ⟨ob, hob⟩ : ∃ ob, v.ownBlock.toList = ob := ⟨_, rfl⟩
        rw [hob] at HNQ HN1 HN2
        have HOB := hid_mk hob
        clear hob
        refine wpIn_region_roundC (Xl ob) (fun i => i != 6) (fun i => [].contains i) (.quiet 0 (.quiet 1 (.quiet 2 (.alt 3 (.alt 4 (.alt 5 (.alt 6 .done .stop) .stop) .stop) .stop)))) (by kernel_rfl) (by kernel_rfl) Xl.refl Xl.trans (by intro c a w d v h; cases d <;> exact h) (by kernel_rfl) (by rintro ⟨_, _, h⟩; exact h) (fun ops HO => ?_)
        refine planC_read _ (hi_of HO rfl) rfl rfl (fun w' hE => by have hcE := hE.cell (k := q) (o := 0) cl HNQ.out; clear hE; go_simp; rfl) ?_
        simp only [Act.put, List.setIfInBounds_toArray, List.set_cons_succ, List.set_cons_zero]
        refine planC_read _ (hi_of HO rfl) rfl rfl (fun w' hE => by have hcE := fun o => hE.cell (k := B1) (o := o) yl HN1.out; clear hE; go_simp; rfl) ?_
        simp only [Act.put, List.setIfInBounds_toArray, List.set_cons_succ, List.set_cons_zero]
        refine planC_read _ (hi_of HO rfl) rfl rfl (fun w' hE => by have hcE := fun o => hE.cell (k := B2) (o := o) zl HN2.out; clear hE; go_simp; rfl) ?_
        simp only [Act.put, List.setIfInBounds_toArray, List.set_cons_succ, List.set_cons_zero]
        refine planC_call1 en_iBest (hi_of HO rfl) rfl rfl (by go_simp; rfl) (by exact iBest_any x.1 x.2 _) ?_
        rintro e W3 ⟨rfl, hx3⟩
        refine ⟨_, rfl, fun _ => Xl.of hx3, ?_⟩
        simp only [Act.put, List.setIfInBounds_toArray, List.set_cons_succ, List.set_cons_zero]
        have HX3 := hid_mk (Ext.trans _ _ _ ((Ext.refl Y).drew) hx3)
        rw [HBE.out]
        clear y0 y1 y2 y3 y4 z0 z1 z2 z3 z4 yl zl hx3
        refine planC_loud1 (hi_of HO rfl) rfl ?_
        go_simp
        refine ⟨Xl.of (by (repeat (first | exact Ext.refl _ | apply Ext.drew_left | apply Ext.drew | apply Ext.alloc))), ?_⟩
        have hx4 : Ext Y (W3.alloc (.cells #[.string be.key, .int .i64 be.ctr, .int .i64 be.node, .string be.val, .bool be.dead] 55)) := HX3.out.alloc _
        obtain ⟨v', w', hrun, ho, hg, hob⟩ := appendE (w := W3.alloc (.cells #[.string be.key, .int .i64 be.ctr, .int .i64 be.node, .string be.val, .bool be.dead] 55)) (HY.out.ext hx4).ow (lv := .slice (some ⟨W3.heap.size, 0, none⟩) 1 1) (L := [be]) ⟨_, 1, rfl, Nat.le_refl _, by simp, fun _ => ⟨_, 0, rfl, fun i hi => by
        obtain rfl : i = 0 := by simpa using hi
        exact ⟨by go_simp, by go_simp, by go_simp, by go_simp, by go_simp⟩⟩⟩ (by have := HPL.out; simp; omega) (Nat.le_trans HY.out.sz hx4.below.size)
        obtain ⟨va, vc, rfl⟩ := own_form ho
        have HMA := hid_mk (HY.out.app hx4 hg ho hob)
        have HGW := hid_mk (And.intro hx4 (And.intro hg (fun g e => (World.ownsRow.lt HY.out.ow g e).1)))
        have hx5 := xl_grownB hg
        rw [HOB.out] at hx5
        clear hx4 hg ho hob
        refine planC_loud1 (hi_of HO rfl) rfl ?_
        go_simp
        clear hx5
        have k0 := HMA.out.2.1.cell
        have k1 := HMA.out.2.1.frozen
        have kl := cell_lt k0
        refine planC_loud1 (hi_of HO rfl) rfl ?_
        go_simp
        clear k0 k1 kl
        refine planC_done ?fin101
        gi_wp2
        have h := HMA.out
        rw [show (pre.map mBest ++ [be]).length = pre.length + 1 by simp] at h
        exact ⟨HKB.out.1.trans h.2.2.1, HKB.out.2.trans h.2.2.2, ⟨_, by rw [List.map_append, List.map_cons, List.map_nil, HMB.out]; exact h.1⟩, trivial⟩
      | false =>
        obtain ⟨be, hbe⟩ : ∃ be, bestE x.2 x.2 = be := ⟨_, rfl⟩
        have HBE := hid_mk hbe
        have HMB := hid_mk (show mBest x = be by rw [mBest, if_neg (by rw [HTH.out]; simp)]; exact hbe)
        clear hbe
        have hbb := (HX2.out.below.block B1 hbl1).trans HB1.out
        have f0 : X2.frozen? ⟨B1, 0, none⟩ = false := by simp [World.frozen?, hbb]
        have f1 : X2.frozen? ⟨B1, 1, none⟩ = false := by simp [World.frozen?, hbb]
        have f2 : X2.frozen? ⟨B1, 2, none⟩ = false := by simp [World.frozen?, hbb]
        have f3 : X2.frozen? ⟨B1, 3, none⟩ = false := by simp [World.frozen?, hbb]
        have f4 : X2.frozen? ⟨B1, 4, none⟩ = false := by simp [World.frozen?, hbb]
        have HFR := hid_mk hbb
        obtain ⟨e0, e1, e2, e3, e4⟩ := HE2.out
        have hl1 := cell_lt p0
        have hl2 := cell_lt e0
        clear hbb
        gi_wp2_with fail
        have HMS := hid_mk (((((HSX.out.ext HX2.out).other hqB HVL.out (o := 0) (u := .string x.2.key)).other hqB HVL.out (o := 1) (u := .int .i64 x.2.ctr)).other hqB HVL.out (o := 2) (u := .int .i64 x.2.node)).other hqB HVL.out (o := 3) (u := .string x.2.val) |>.other hqB HVL.out (o := 4) (u := .bool x.2.dead))
        have HXS := hid_mk (show Xl [B1] X2 (((((X2.setCell ⟨B1, 0, none⟩ (.string x.2.key)).setCell ⟨B1, 1, none⟩ (.int .i64 x.2.ctr)).setCell ⟨B1, 2, none⟩ (.int .i64 x.2.node)).setCell ⟨B1, 3, none⟩ (.string x.2.val)).setCell ⟨B1, 4, none⟩ (.bool x.2.dead)) from (((((Xl.refl X2).set (by simp)).set (by simp)).set (by simp)).set (by simp)).set (by simp))
        refine gen_wpIn (fun W => MI w w3.heap.size q (pre.map mBest) v W ∧ EntAt W B1 0 x.2 ∧ EntAt W B2 0 x.2 ∧ KeepsFrom w3.heap.size X W ∧ BelowX w3.heap.size [q] X W) ⟨HMS.out, ⟨by go_simp, by go_simp, by go_simp, by go_simp, by go_simp⟩, entAt_xl HE2.out HXS.out (by simp; omega), ((((((keepsFrom_ext HX2.out).trans ((KeepsOthers.setCell _ _ _).from _)).trans ((KeepsOthers.setCell _ _ _).from _)).trans ((KeepsOthers.setCell _ _ _).from _)).trans ((KeepsOthers.setCell _ _ _).from _)).trans ((KeepsOthers.setCell _ _ _).from _)), (BelowX.ofXl (Xl.of HX2.out) HSX.out.sz).trans ((((((BelowX.refl).setCell (.inl HB1N.out)).setCell (.inl HB1N.out)).setCell (.inl HB1N.out)).setCell (.inl HB1N.out)).setCell (.inl HB1N.out))⟩ ?_
        rintro Y ⟨hmi, ⟨y0, y1, y2, y3, y4⟩, ⟨z0, z1, z2, z3, z4⟩, hkf, hbx⟩
        have HY := hid_mk hmi
        have HKB := hid_mk (And.intro hkf hbx)
        have c0 := hmi.bx.cell
        have cl := cell_lt c0
        have yl := cell_lt y0
        have zl := cell_lt z0
        clear hmi hkf hbx
        have HNQ := hid_mk (show q ∉ v.ownBlock.toList from fun hm => HY.out.ne (by simpa using hm))
        have HN1 := hid_mk (show B1 ∉ v.ownBlock.toList from fun hm => by have := HVL.out B1 (by simpa using hm); omega)
        have HN2 := hid_mk (show B2 ∉ v.ownBlock.toList from fun hm => by have := HVL.out B2 (by simpa using hm); omega)
        obtain ⟨ob, hob⟩ : ∃ ob, v.ownBlock.toList = ob := ⟨_, rfl⟩
        rw [hob] at HNQ HN1 HN2
        have HOB := hid_mk hob
        clear hob
        refine wpIn_region_roundC (Xl ob) (fun i => i != 6) (fun i => [].contains i) (.quiet 0 (.quiet 1 (.quiet 2 (.alt 3 (.alt 4 (.alt 5 (.alt 6 .done .stop) .stop) .stop) .stop)))) (by kernel_rfl) (by kernel_rfl) Xl.refl Xl.trans (by intro c a w d v h; cases d <;> exact h) (by kernel_rfl) (by rintro ⟨_, _, h⟩; exact h) (fun ops HO => ?_)
        refine planC_read _ (hi_of HO rfl) rfl rfl (fun w' hE => by have hcE := hE.cell (k := q) (o := 0) cl HNQ.out; clear hE; go_simp; rfl) ?_
        simp only [Act.put, List.setIfInBounds_toArray, List.set_cons_succ, List.set_cons_zero]
        refine planC_read _ (hi_of HO rfl) rfl rfl (fun w' hE => by have hcE := fun o => hE.cell (k := B1) (o := o) yl HN1.out; clear hE; go_simp; rfl) ?_
        simp only [Act.put, List.setIfInBounds_toArray, List.set_cons_succ, List.set_cons_zero]
        refine planC_read _ (hi_of HO rfl) rfl rfl (fun w' hE => by have hcE := fun o => hE.cell (k := B2) (o := o) zl HN2.out; clear hE; go_simp; rfl) ?_
        simp only [Act.put, List.setIfInBounds_toArray, List.set_cons_succ, List.set_cons_zero]
        refine planC_call1 en_iBest (hi_of HO rfl) rfl rfl (by go_simp; rfl) (by exact iBest_any x.2 x.2 _) ?_
        rintro e W3 ⟨rfl, hx3⟩
        refine ⟨_, rfl, fun _ => Xl.of hx3, ?_⟩
        simp only [Act.put, List.setIfInBounds_toArray, List.set_cons_succ, List.set_cons_zero]
        have HX3 := hid_mk (Ext.trans _ _ _ ((Ext.refl Y).drew) hx3)
        rw [HBE.out]
        clear y0 y1 y2 y3 y4 z0 z1 z2 z3 z4 yl zl hx3
        refine planC_loud1 (hi_of HO rfl) rfl ?_
        go_simp
        refine ⟨Xl.of (by (repeat (first | exact Ext.refl _ | apply Ext.drew_left | apply Ext.drew | apply Ext.alloc))), ?_⟩
        have hx4 : Ext Y (W3.alloc (.cells #[.string be.key, .int .i64 be.ctr, .int .i64 be.node, .string be.val, .bool be.dead] 55)) := HX3.out.alloc _
        obtain ⟨v', w', hrun, ho, hg, hob⟩ := appendE (w := W3.alloc (.cells #[.string be.key, .int .i64 be.ctr, .int .i64 be.node, .string be.val, .bool be.dead] 55)) (HY.out.ext hx4).ow (lv := .slice (some ⟨W3.heap.size, 0, none⟩) 1 1) (L := [be]) ⟨_, 1, rfl, Nat.le_refl _, by simp, fun _ => ⟨_, 0, rfl, fun i hi => by
        obtain rfl : i = 0 := by simpa using hi
        exact ⟨by go_simp, by go_simp, by go_simp, by go_simp, by go_simp⟩⟩⟩ (by have := HPL.out; simp; omega) (Nat.le_trans HY.out.sz hx4.below.size)
        obtain ⟨va, vc, rfl⟩ := own_form ho
        have HMA := hid_mk (HY.out.app hx4 hg ho hob)
        have HGW := hid_mk (And.intro hx4 (And.intro hg (fun g e => (World.ownsRow.lt HY.out.ow g e).1)))
        have hx5 := xl_grownB hg
        rw [HOB.out] at hx5
        clear hx4 hg ho hob
        refine planC_loud1 (hi_of HO rfl) rfl ?_
        go_simp
        clear hx5
        have k0 := HMA.out.2.1.cell
        have k1 := HMA.out.2.1.frozen
        have kl := cell_lt k0
        refine planC_loud1 (hi_of HO rfl) rfl ?_
        go_simp
        clear k0 k1 kl
        refine planC_done ?fin102
        gi_wp2
        have h := HMA.out
        rw [show (pre.map mBest ++ [be]).length = pre.length + 1 by simp] at h
        exact ⟨HKB.out.1.trans h.2.2.1, HKB.out.2.trans h.2.2.2, ⟨_, by rw [List.map_append, List.map_cons, List.map_nil, HMB.out]; exact h.1⟩, trivial⟩
    case done =>
      rintro D zs X hD hS ⟨⟨v, hmi⟩, -⟩ hK
      obtain rfl : zs = prs a b := hS
      have HMX := hid_mk hmi
      have r1 := hmi.bx.cell
      have gl1 := hmi.bx.lt
      have HKK := hid_mk hK
      clear hmi hK
      rw [HT.out]
      go_wp2
      show LeavesInM Fence.wide 5 Tryd.prog Tryd.f16 _ _ _ _ _
      refine ⟨by simp, .inl ⟨_, _, rfl, run_takeDeferred HKK.out, ?_⟩⟩
      refine ⟨.tuple #[v, .int .i64 0], ?_, v, rfl, ?_⟩
      · unfold results
        rw [Tryd.results16]
        simp [go_sem]
      · have hbD := belowK_b (w := w) (Nat.le_refl _) X D (.deferred (some [])) (.deferred none) (by omega) HKK.out rfl rfl
        exact ⟨(HMX.out.ow.kept (grownBy_putObj' _ D (.deferred none)) (fun r e => by cases e; exact ⟨_, HKK.out, rfl⟩)).lower HMX.out.ln, Ext.of (HMX.out.bl.trans hbD)⟩
    case stop =>
      rintro D c pre X hD hS h hK
      exact h.elim
  · have HMR := hid_mk (show maxR a b = [] by rw [maxR, if_neg (by rw [HZ.out]; exact hz0)])
    rw [HMR.out]
    go_enter Tryd.func16, Tryd.ntmps16
    go_wp2_with fail
    refine (mCheck2_any a b _ _ _ HS.out.1 HS.out.2).mono ?_
    rintro e w1 ⟨rfl, hx1⟩
    rw [show (if mChk a ≠ 0 then mChk a else mChk b) = z from HZ.out]
    have HX1 := hid_mk hx1
    have hb : (z == 0) = false := by rw [beq_eq_false_iff_ne]; exact hz0
    clear hx1
    go_wp2
    refine bodyPost_ret (v := .tuple #[.slice none 0 0, .int .i64 z]) (by unfold results; rw [Tryd.results16]; go_simp; first | done | rfl) rfl ⟨_, rfl, ownE_nil _ _, HX1.out⟩
end Go.Proofs.YtiimoaplhhnklaaDoor
namespace Go.Proofs.YtiimoaplhhnklaaDoor
open Go.RowKit
set_option maxHeartbeats 4000000
set_option maxRecDepth 100000
set_option linter.unusedSimpArgs false
set_option linter.unusedVariables false
attribute [-go_sem] Builtin.append_

def rBest (p : Ent × Ent) : Ent := if p.1.ctr = 0 then p.2 else bestE p.1 p.2
def rmaxR (a b : List Ent) : List Ent := if chk2 a b = 0 then (prs a b).map rBest else []
theorem r9Max_any {w : World} (a b : List Ent) (av bv : Value) (hs : EntSl w av a) (hs' : EntSl w bv b) (hla : a.length ≤ 300000000) (hlb : b.length ≤ 300000000) :
    Calls Tryd.prog 17 #[av, bv] w fun e w' => ∃ v, e = .returned (.tuple #[v, .int .i64 (chk2 a b)]) ∧ OwEn w' w.heap.size v (rmaxR a b) ∧ Ext w w' := by
  have HS := hid_mk (And.intro hs hs')
  have HLL := hid_mk (And.intro hla hlb)
  obtain ⟨xa, xc, rfl, -⟩ := hs
  obtain ⟨ya, yc, rfl, -⟩ := hs'
  obtain ⟨z, hz⟩ : ∃ z, chk2 a b = z := ⟨_, rfl⟩
  have HZ := hid_mk hz
  rw [hz]
  clear hla hlb hz
  by_cases hz0 : z = 0
  · subst hz0
    have HMR := hid_mk (show rmaxR a b = (prs a b).map rBest by rw [rmaxR, if_pos HZ.out])
    obtain ⟨ps, hps⟩ : ∃ ps, prs a b = ps := ⟨_, rfl⟩
    rw [HMR.out, hps]
    have HPS := hid_mk hps
    clear hps HMR
    have HAB0 := hid_mk (show mChk a = 0 ∧ mChk b = 0 by
      have h := HZ.out
      unfold chk2 at h
      split at h
      · rename_i h1; exact absurd h h1
      · rename_i h1; exact ⟨by simpa using h1, h⟩)
    go_enter Tryd.func17, Tryd.ntmps17
    go_wp2_with fail
    refine (r9Check2_any a b _ _ _ HS.out.1 HS.out.2).mono ?_
    rintro e W1 ⟨rfl, hx1⟩
    rw [show (if mChk a ≠ 0 then mChk a else mChk b) = 0 from HZ.out]
    have HX1 := hid_mk hx1
    clear hx1
    go_wp2_with fail
    refine (r9Pairs_big a b _ _ _ (HS.out.1.ext HX1.out) (HS.out.2.ext HX1.out) HAB0.out.1 HAB0.out.2 HLL.out.1 HLL.out.2).mono ?_
    rintro e W2 ⟨pv, rfl, hop, hx2⟩
    have HX2 := hid_mk (Ext.trans _ _ _ HX1.out hx2)
    rw [HPS.out] at hop
    have HPL := hid_mk (show ps.length ≤ 600000000 by
      have := prs_len a b
      have := HLL.out
      rw [HPS.out] at *
      omega)
    have HOP := hid_mk (fun (hp : 0 < ps.length) => ownP_at hop hp)
    obtain ⟨pa, pc, rfl⟩ := own_form hop
    clear hop hx2 HX1
    go_wp2_with fail
    obtain ⟨n, hn⟩ : ∃ n, W2.heap.size = n := ⟨_, rfl⟩
    have HN := hid_mk hn
    have HE0 := hid_mk (show OwEn (W2.alloc (.cells #[] 55)) n (.slice (some ⟨n, 0, none⟩) 0 0) [] from ownE_empty (by rw [← hn]; exact heap_alloc_new W2 _) (Nat.le_refl _))
    have hx3 : Ext W2 (W2.alloc (.cells #[] 55)) := by (repeat (first | exact Ext.refl _ | apply Ext.drew_left | apply Ext.drew | apply Ext.alloc))
    have HX3 := hid_mk hx3
    rw [hn]
    clear hx3 hn
    go_loopw [8, 9] (fun v i wr => ∃ m : Nat, m ≤ ps.length ∧ i = .int .i64 (m : Int) ∧ OwEn wr n v ((ps.take m).map rBest) ∧ Ext W2 wr) (fun v i _ => ps.length - (intOf i).toNat)
    case atStart => exact ⟨0, Nat.zero_le _, rfl, HE0.out, HX3.out⟩
    case round =>
      clear HX3 HE0
      rename_i v
      obtain ⟨m, hm, rfl, how, hx⟩ := hrel
      have HOW := hid_mk how
      have HX := hid_mk hx
      clear how hx
      by_cases hlt : m < ps.length
      · obtain ⟨g, c', e', hat⟩ := HOP.out (by omega)
        cases e'
        have hgn : g < n := by
          have h1 := cell_lt (hat m hlt).1.c0
          rw [← HN.out]
          exact h1
        obtain ⟨⟨p0, p1, p2, p3, p4⟩, ⟨q0, q1, q2, q3, q4⟩⟩ := hat m hlt
        replace p0 := cell_ext HX.out p0
        replace p1 := cell_ext HX.out p1
        replace p2 := cell_ext HX.out p2
        replace p3 := cell_ext HX.out p3
        replace p4 := cell_ext HX.out p4
        replace q0 := cell_ext HX.out q0
        replace q1 := cell_ext HX.out q1
        replace q2 := cell_ext HX.out q2
        replace q3 := cell_ext HX.out q3
        replace q4 := cell_ext HX.out q4
        have hgl := cell_lt p0
        have HTK := hid_mk (show (ps.take (m + 1)).map rBest = (ps.take m).map rBest ++ [rBest ps[m]] by rw [List.take_succ_eq_append_getElem hlt, List.map_append, List.map_cons, List.map_nil])
        have HTL := hid_mk (show ((ps.take m).map rBest).length = m by rw [List.length_map, List.length_take]; omega)
        obtain ⟨x, hxx⟩ : ∃ x, ps[m] = x := ⟨_, rfl⟩
        rw [hxx] at p0 p1 p2 p3 p4 q0 q1 q2 q3 q4 HTK
        have hm1 : (m : Int) < (ps.length : Int) := by omega
        have hm0 : (0 : Int) ≤ (m : Int) := by omega
        have HW := hid_mk (show wrap64 ((m : Int) + 1) = (m : Int) + 1 from w64in (by have := HPL.out; omega))
        obtain ⟨va, vc, ev⟩ := own_form HOW.out
        rw [HTL.out] at ev
        subst ev
        clear hat hxx
        go_wp2_with fail
        refine (none_any x.1 _).mono ?_
        rintro e W3 ⟨rfl, hx3⟩
        obtain ⟨nb, hnb⟩ : ∃ nb, decide (x.1.ctr = 0) = nb := ⟨_, rfl⟩
        have HNB := hid_mk hnb
        rw [hnb]
        have HX3 := hid_mk hx3
        replace p0 := cell_ext hx3 p0
        replace p1 := cell_ext hx3 p1
        replace p2 := cell_ext hx3 p2
        replace p3 := cell_ext hx3 p3
        replace p4 := cell_ext hx3 p4
        replace q0 := cell_ext hx3 q0
        replace q1 := cell_ext hx3 q1
        replace q2 := cell_ext hx3 q2
        replace q3 := cell_ext hx3 q3
        replace q4 := cell_ext hx3 q4
        replace hgl := cell_lt p0
        clear hx3 hnb
        cases nb with
        | true =>
          have hx4 : Ext wr (W3.alloc (.cells #[.string x.2.key, .int .i64 x.2.ctr, .int .i64 x.2.node, .string x.2.val, .bool x.2.dead] 55)) := HX3.out.alloc _
          obtain ⟨v', w', hrun, ho, hg, hob⟩ := appendE (w := W3.alloc (.cells #[.string x.2.key, .int .i64 x.2.ctr, .int .i64 x.2.node, .string x.2.val, .bool x.2.dead] 55)) (HOW.out.ext hx4) (lv := .slice (some ⟨W3.heap.size, 0, none⟩) 1 1) (L := [x.2]) ⟨_, 1, rfl, Nat.le_refl _, by simp, fun _ => ⟨_, 0, rfl, fun i hi => by
            obtain rfl : i = 0 := by simpa using hi
            exact ⟨by go_simp, by go_simp, by go_simp, by go_simp, by go_simp⟩⟩⟩ (by rw [HTL.out]; have := HPL.out; simp; omega) (by have := HN.out; have := HX.out.below.size; have := hx4.below.size; omega)
          have hxw := ext_grown (base := n) (Ext.trans _ _ _ HX.out hx4) hg (HOW.out.ext hx4) (by rw [HN.out]; exact Nat.le_refl _)
          rw [show x.2 = rBest x by rw [rBest, if_pos (of_decide_eq_true HNB.out)]] at ho
          rw [← HTK.out] at ho
          have HOF := hid_mk (And.intro ho hxw)
          obtain ⟨va', vc', eva⟩ := own_form ho
          subst eva
          clear ho hg hxw hx4 hob
          go_wp2
          go_roundw
          case rel => exact ⟨m + 1, hlt, (by first | exact congrArg (Value.int .i64) HW.out | rfl), (by have h := HOF.out.1; rw [show ((ps.take (m + 1)).map rBest).length = min (m + 1) ps.length by simp] at h; exact h), HOF.out.2⟩
          case measure => (try simp only [HW.out]); simp [intOf]; omega
        | false =>
          obtain ⟨be, hbe⟩ : ∃ be, bestE x.1 x.2 = be := ⟨_, rfl⟩
          have HBE := hid_mk hbe
          have HRB := hid_mk (show rBest x = be by rw [rBest, if_neg (of_decide_eq_false HNB.out)]; exact hbe)
          have hobn : ∀ k, (Value.slice va m vc).ownBlock = some k → n ≤ k := fun k e => (World.ownsRow.lt HOW.out k e).1
          have HNG := hid_mk (show g ∉ (Value.slice va m vc).ownBlock.toList from fun hm => by have := hobn g (by simpa using hm); omega)
          obtain ⟨ob, hob⟩ : ∃ ob, (Value.slice va m vc).ownBlock.toList = ob := ⟨_, rfl⟩
          rw [hob] at HNG
          have HOB := hid_mk hob
          clear hbe hobn hob
          go_wp2_with fail
          refine wp_region_held_planC (Xl ob) (fun _ => true) (fun i => [0, 1, 2, 3, 4, 6, 7, 8, 9, 14].contains i) (.quiet 0 (.quiet 1 (.quiet 2 (.quiet 3 (.quiet 4 (.quiet 5 (.quiet 6 (.quiet 7 (.quiet 8 (.quiet 9 (.quiet 10 (.alt 11 (.alt 12 (.alt 13 (.quiet 14 .done) .stop) .stop) .stop)))))))))))) (by kernel_rfl) (by kernel_rfl) Xl.refl Xl.trans (by intro c a w d v h; cases d <;> exact h) (fun ops HO => ?_)
          refine planC_calm _ (hi_of HO rfl) rfl (fun w' => by go_simp; rfl) ?_
          simp only [Act.put, List.setIfInBounds_toArray, List.set_cons_succ, List.set_cons_zero]
          refine planC_calm _ (hi_of HO rfl) rfl (fun w' => by go_simp; rfl) ?_
          simp only [Act.put, List.setIfInBounds_toArray, List.set_cons_succ, List.set_cons_zero]
          refine planC_calm _ (hi_of HO rfl) rfl (fun w' => by go_simp; rfl) ?_
          simp only [Act.put, List.setIfInBounds_toArray, List.set_cons_succ, List.set_cons_zero]
          refine planC_calm _ (hi_of HO rfl) rfl (fun w' => by go_simp; rfl) ?_
          simp only [Act.put, List.setIfInBounds_toArray, List.set_cons_succ, List.set_cons_zero]
          refine planC_calm _ (hi_of HO rfl) rfl (fun w' => by go_simp; rfl) ?_
          simp only [Act.put, List.setIfInBounds_toArray, List.set_cons_succ, List.set_cons_zero]
          refine planC_read _ (hi_of HO rfl) rfl rfl (fun w' hE => by have hcE := fun o => hE.cell (k := g) (o := o) hgl HNG.out; clear hE; go_simp; rfl) ?_
          simp only [Act.put, List.setIfInBounds_toArray, List.set_cons_succ, List.set_cons_zero]
          refine planC_calm _ (hi_of HO rfl) rfl (fun w' => by go_simp; rfl) ?_
          simp only [Act.put, List.setIfInBounds_toArray, List.set_cons_succ, List.set_cons_zero]
          refine planC_calm _ (hi_of HO rfl) rfl (fun w' => by go_simp; rfl) ?_
          simp only [Act.put, List.setIfInBounds_toArray, List.set_cons_succ, List.set_cons_zero]
          refine planC_calm _ (hi_of HO rfl) rfl (fun w' => by go_simp; rfl) ?_
          simp only [Act.put, List.setIfInBounds_toArray, List.set_cons_succ, List.set_cons_zero]
          refine planC_calm _ (hi_of HO rfl) rfl (fun w' => by go_simp; rfl) ?_
          simp only [Act.put, List.setIfInBounds_toArray, List.set_cons_succ, List.set_cons_zero]
          refine planC_read _ (hi_of HO rfl) rfl rfl (fun w' hE => by have hcE := fun o => hE.cell (k := g) (o := o) hgl HNG.out; clear hE; go_simp; rfl) ?_
          simp only [Act.put, List.setIfInBounds_toArray, List.set_cons_succ, List.set_cons_zero]
          refine planC_call1 en_r3Best (hi_of HO rfl) rfl rfl (by go_simp; rfl) (by exact r3Best_any x.1 x.2 _) ?_
          rintro e W5 ⟨rfl, hx5⟩
          refine ⟨_, rfl, fun _ => Xl.of hx5, ?_⟩
          simp only [Act.put, List.setIfInBounds_toArray, List.set_cons_succ, List.set_cons_zero]
          have HX5 := hid_mk (Ext.trans _ _ _ (Ext.drew HX3.out) hx5)
          rw [HBE.out]
          clear p0 p1 p2 p3 p4 q0 q1 q2 q3 q4 hgl hx5
          refine planC_loud1 (hi_of HO rfl) rfl ?_
          go_simp
          refine ⟨Xl.of (by (repeat (first | exact Ext.refl _ | apply Ext.drew_left | apply Ext.drew | apply Ext.alloc))), ?_⟩
          have hx4 : Ext wr (W5.alloc (.cells #[.string be.key, .int .i64 be.ctr, .int .i64 be.node, .string be.val, .bool be.dead] 55)) := HX5.out.alloc _
          obtain ⟨v', w', hrun, ho, hg, hob⟩ := appendE (w := W5.alloc (.cells #[.string be.key, .int .i64 be.ctr, .int .i64 be.node, .string be.val, .bool be.dead] 55)) (HOW.out.ext hx4) (lv := .slice (some ⟨W5.heap.size, 0, none⟩) 1 1) (L := [be]) ⟨_, 1, rfl, Nat.le_refl _, by simp, fun _ => ⟨_, 0, rfl, fun i hi => by
          obtain rfl : i = 0 := by simpa using hi
          exact ⟨by go_simp, by go_simp, by go_simp, by go_simp, by go_simp⟩⟩⟩ (by rw [HTL.out]; have := HPL.out; simp; omega) (by have := HN.out; have := HX.out.below.size; have := hx4.below.size; omega)
          have hxw := ext_grown (base := n) (Ext.trans _ _ _ HX.out hx4) hg (HOW.out.ext hx4) (by rw [HN.out]; exact Nat.le_refl _)
          have hx6 := xl_grownB hg
          rw [HOB.out] at hx6
          rw [show be = rBest x from HRB.out.symm] at ho
          rw [← HTK.out] at ho
          obtain ⟨va', vc', eva⟩ := own_form ho
          subst eva
          have HOF := hid_mk (And.intro ho hxw)
          clear ho hg hxw hx4 hob
          refine planC_loud1 (hi_of HO rfl) rfl ?_
          go_simp
          clear hx6
          refine planC_calm _ (hi_of HO rfl) rfl (fun w' => by go_simp; rfl) ?_
          simp only [Act.put, List.setIfInBounds_toArray, List.set_cons_succ, List.set_cons_zero]
          refine planC_done ?fin101
          go_wp2
          go_roundw
          case rel => exact ⟨m + 1, hlt, (by first | exact congrArg (Value.int .i64) HW.out | rfl), (by have h := HOF.out.1; rw [show ((ps.take (m + 1)).map rBest).length = min (m + 1) ps.length by simp] at h; exact h), HOF.out.2⟩
          case measure => (try simp only [HW.out]); simp [intOf]; omega
      · obtain rfl : m = ps.length := by omega
        have hmm : ¬ ((ps.length : Nat) : Int) < (ps.length : Int) := by omega
        rw [List.take_length] at HOW
        have HXF := hid_mk (Ext.trans _ _ _ HX2.out HX.out)
        have HLN := hid_mk (show w.heap.size ≤ n by rw [← HN.out]; exact HX2.out.below.size)
        obtain ⟨va, vc, ev⟩ := own_form HOW.out
        subst ev
        rw [List.length_map] at *
        go_wp2
        refine bodyPost_ret (v := .tuple #[.slice va ps.length vc, .int .i64 0]) (by unfold results; rw [Tryd.results17]; go_simp; first | done | rfl) rfl ⟨_, rfl, HOW.out.lower HLN.out, HXF.out⟩
  · have HMR := hid_mk (show rmaxR a b = [] by rw [rmaxR, if_neg (by rw [HZ.out]; exact hz0)])
    rw [HMR.out]
    go_enter Tryd.func17, Tryd.ntmps17
    go_wp2_with fail
    refine (r9Check2_any a b _ _ _ HS.out.1 HS.out.2).mono ?_
    rintro e w1 ⟨rfl, hx1⟩
    rw [show (if mChk a ≠ 0 then mChk a else mChk b) = z from HZ.out]
    have HX1 := hid_mk hx1
    have hb : (z == 0) = false := by rw [beq_eq_false_iff_ne]; exact hz0
    clear hx1
    go_wp2
    refine bodyPost_ret (v := .tuple #[.slice none 0 0, .int .i64 z]) (by unfold results; rw [Tryd.results17]; go_simp; first | done | rfl) rfl ⟨_, rfl, ownE_nil _ _, HX1.out⟩
end Go.Proofs.YtiimoaplhhnklaaDoor
