/- Judging: own rows of strings; merge's Differ. Judging: the document's Differ of maps of one key and version each; alike. -/
import Derived.Test.YtiimoaplhhnklaaDoorMJA
import Derived.Sort.CutIn
namespace Go.Proofs.YtiimoaplhhnklaaDoor
open Go.RowKit Go.Shelf
set_option maxHeartbeats 4000000
set_option maxRecDepth 100000
set_option linter.unusedSimpArgs false
set_option linter.unusedVariables false
attribute [local go_sem] Oper.semAt_some
attribute [local go_sem ↓] eql_ver neq_ver
attribute [-go_sem] Builtin.append_
theorem en_mDiffer : Enters Tryd.prog 12 := ⟨_, Tryd.func12, by kernel_rfl, rfl⟩
theorem en_r9Differ : Enters Tryd.prog 41 := ⟨_, Tryd.func41, by kernel_rfl, rfl⟩
def OwS (w : World) (B : Nat) (v : Value) (l : List ByteArray) : Prop := w.ownsRow B 9 1 v l.length (l.map Value.string)
theorem str_info : ∃ i z, Tryd.prog.info? 9 = some i ∧ i.size = 1 ∧ i.bytes ≤ 128 ∧ i.zero = some z ∧ z.cells = #[.string ⟨#[]⟩] := ⟨_, _, rfl, rfl, by decide, rfl, rfl⟩
theorem ownS_nil (w : World) (B : Nat) : OwS w B (.slice none 0 0) [] := ⟨rfl, .inl ⟨rfl, rfl⟩⟩
theorem ownS_empty {w : World} {B g : Nat} (hg : w.heap[g]? = some (.cells #[] 9 (0, 0))) (hB : B ≤ g) : OwS w B (.slice (some ⟨g, 0, none⟩) 0 0) [] :=
  ⟨rfl, .inr ⟨g, 0, #[], rfl, hB, hg, Nat.le_refl _, by unfold maxLen; omega, rfl, rfl⟩⟩
theorem OwS.ext {w w' : World} {B : Nat} {v : Value} {l : List ByteArray} (h : OwS w B v l) (hx : Ext w w') : OwS w' B v l := own_ext h hx
theorem OwS.lower {w : World} {B B' : Nat} {v : Value} {l : List ByteArray} (h : OwS w B v l) (hB : B' ≤ B) : OwS w B' v l :=
  ⟨h.1, h.2.imp id (fun ⟨g, cap, cur, e1, e2, e3⟩ => ⟨g, cap, cur, e1, Nat.le_trans hB e2, e3⟩)⟩
theorem OwS.xl {L : List Nat} {w w' : World} (hx : Xl L w w') {v : Value} (hn : ∀ g, v.ownBlock = some g → g ∉ L) {B : Nat} {l : List ByteArray} (h : OwS w B v l) : OwS w' B v l := by
  rcases h.2 with ⟨e1, e2⟩ | ⟨g, cap, cur, e1, e2, e3, e4⟩
  · exact ⟨h.1, .inl ⟨e1, e2⟩⟩
  · have hg : g ∉ L := hn g (by rw [e1]; rfl)
    exact ⟨h.1, .inr ⟨g, cap, cur, e1, e2, (hx.block g (Array.getElem?_eq_some_iff.1 e3).1 hg).trans e3, e4⟩⟩
theorem appendS {w : World} {B b : Nat} {v : Value} {M : List ByteArray} {p : ByteArray} (hown : OwS w B v M) (hb : w.heap[b]? = some (.cells #[.string p] 9 (0, 0))) (hl : M.length ≤ 1000000000) (hB : B ≤ w.heap.size) :
    ∃ v' w', (Builtin.append_ #[33, 33] 33 #[v, .slice (some ⟨b, 0, none⟩) 1 1]).run Tryd.prog w = .ok v' w' ∧ OwS w' B v' (M ++ [p]) ∧ w.grownBy w' v.ownBlock ∧ (v'.ownBlock = v.ownBlock ∨ v'.ownBlock = some w.heap.size) := by
  obtain ⟨i0, z, hinf, hs, hby, hz, hcc⟩ := str_info
  obtain ⟨v', w', h1, h2, h3, -, h4⟩ := run_append_own_at (P := Tryd.prog) w B 33 33 9 i0 z 1 i0.bytes Tryd.underlying33 hinf hz hs rfl (by rw [hcc]; rfl) (by omega) v M.length (M.map Value.string) hown ⟨b, 0, none⟩ 1 1 [.string p] rfl
    (fun j u hj => by
      rw [radd_flatE, Nat.zero_add]
      simp [World.cell?, hb, hj]) (by
      intro u hu
      simp at hu
      subst hu
      rfl) (by unfold maxLen; omega) (by
      have : (M.length + 1) * i0.bytes ≤ 1000000001 * 128 := Nat.mul_le_mul (by omega) hby
      omega) hB
  refine ⟨v', w', h1, ?_, h3, h4⟩
  unfold OwS
  rw [List.length_append, List.map_append]
  simpa using h2
theorem OwS.kept {X Y : World} {row : Option Nat} {B : Nat} {v : Value} {l : List ByteArray} (h : OwS X B v l) (hg : X.grownBy Y row) (hr : ∀ r, row = some r → ∃ o : Obj, X.heap[r]? = some o ∧ o.isCells = false) : OwS Y B v l := by
  rcases h.2 with ⟨e1, e2⟩ | ⟨g, cap, cur, e1, e2, e3, e4⟩
  · exact ⟨h.1, .inl ⟨e1, e2⟩⟩
  · exact ⟨h.1, .inr ⟨g, cap, cur, e1, e2, blk_kept e3 rfl hg hr, e4⟩⟩
theorem keepsFrom_ownS {B n : Nat} {v : Value} {l : List ByteArray} {X Y : World} (h : OwS X n v l) (hg : X.grownBy Y v.ownBlock) : KeepsFrom B X Y := ⟨hg.size, fun k o h1 h2 h3 => by
  refine (hg.block k (Array.getElem?_eq_some_iff.1 h2).1 (fun e => ?_)).trans h2
  rcases h.2 with ⟨e1, e2⟩ | ⟨g, cap, cur, e1, e2, e3, e4⟩
  · rw [e1] at e; cases e
  · rw [e1] at e
    cases e
    rw [e3] at h2
    cases h2
    cases h3⟩
/-- Within Differ: the list so far, in a box. -/
structure MS (w : World) (n q : Nat) (l : List ByteArray) (v : Value) (X : World) : Prop where
  bl : Below w.heap.size w X
  lo : w.heap.size ≤ q
  ln : w.heap.size ≤ n
  sz : n ≤ X.heap.size
  bx : Boxed X q 33 v
  ow : OwS X n v l
  ne : v.ownBlock ≠ some q
theorem MS.own {w : World} {n q : Nat} {l : List ByteArray} {v : Value} {B : Nat} (hB : w.heap.size ≤ B) : OwnFrom (β := Unit) B (fun _ X => MS w n q l v X) := fun s X Y row h hg hr => by
  have hr' : ∀ r, row = some r → ∃ o : Obj, X.heap[r]? = some o ∧ o.isCells = false := fun r e => (hr r e).2
  exact ⟨ownFrom_below (β := Unit) (Nat.le_refl _) hB s X Y row h.bl hg hr, h.lo, h.ln, Nat.le_trans h.sz hg.size, boxed_own (β := Unit) _ _ (fun _ => _) s X Y row h.bx hg hr', h.ow.kept hg hr', h.ne⟩
theorem MS.ext {w : World} {n q : Nat} {l : List ByteArray} {v : Value} {X Y : World} (h : MS w n q l v X) (hx : Ext X Y) : MS w n q l v Y :=
  ⟨h.bl.trans (hx.below.mono h.bl.size), h.lo, h.ln, Nat.le_trans h.sz hx.below.size, (hx.below.block _ h.bx.lt).trans h.bx, h.ow.ext hx, h.ne⟩
theorem MS.own_lt {w : World} {n q : Nat} {l : List ByteArray} {v : Value} {X : World} (h : MS w n q l v X) : ∀ g, v.ownBlock = some g → g < X.heap.size := fun g e => (World.ownsRow.lt h.ow g e).2
theorem MS.other {w : World} {n q : Nat} {l : List ByteArray} {v : Value} {X : World} (h : MS w n q l v X) {B : Nat} (hB : q < B) (hv : ∀ g, v.ownBlock = some g → g < B) {o : Nat} {u : Value} : MS w n q l v (X.setCell ⟨B, o, none⟩ u) :=
  have hlo := h.lo
  have hx : Xl [B] X (X.setCell ⟨B, o, none⟩ u) := (Xl.refl X).set (by simp)
  ⟨h.bl.setCell (p := ⟨B, o, none⟩) (Nat.le_trans hlo (Nat.le_of_lt hB)) _, h.lo, h.ln, Nat.le_trans h.sz hx.size, (Below.heap_setCell _ _ _ _ (by rintro rfl; exact Nat.lt_irrefl _ hB)).trans h.bx, h.ow.xl hx (fun g e hm => by have := hv g e; simp at hm; omega), h.ne⟩
theorem MS.app {w : World} {n q : Nat} {l : List ByteArray} {v v' : Value} {X Y Z : World} {e : ByteArray} (h : MS w n q l v X) (hx : Ext X Y) (hg : Y.grownBy Z v.ownBlock) (ho : OwS Z n v' (l ++ [e])) (hob : v'.ownBlock = v.ownBlock ∨ v'.ownBlock = some Y.heap.size) :
    MS w n q (l ++ [e]) v' (Z.setCell ⟨q, 0, none⟩ v') ∧ Boxed Z q 33 v ∧ KeepsFrom n X (Z.setCell ⟨q, 0, none⟩ v') ∧ BelowX n [q] X (Z.setCell ⟨q, 0, none⟩ v') := by
  have hy := h.ext hx
  have hln := h.ln
  have hbx : Boxed Z q 33 v := (hg.block q hy.bx.lt (fun e => h.ne e.symm)).trans hy.bx
  have hne : v'.ownBlock ≠ some q := by
    rcases hob with e | e
    · rw [e]; exact h.ne
    · rw [e]; intro e'; cases e'; exact Nat.lt_irrefl _ hy.bx.lt
  have hlow : Below w.heap.size w Z := by
    have hsz := hy.bl.size
    refine ⟨hg.os.trans hy.bl.os, hg.tape.trans hy.bl.tape, hg.output.trans hy.bl.output, Nat.le_trans hsz hg.size, fun k hk => ?_⟩
    refine (hg.block k (by omega) (fun e => ?_)).trans (hy.bl.block k hk)
    have := (World.ownsRow.lt hy.ow k e.symm).1
    omega
  have hx2 : Xl [q] Z (Z.setCell ⟨q, 0, none⟩ v') := (Xl.refl Z).set (by simp)
  refine ⟨⟨hlow.setCell h.lo _, h.lo, h.ln, Nat.le_trans (Nat.le_trans hy.sz hg.size) hx2.size, hbx.set _, ho.xl hx2 (fun g e hm => hne (by simp at hm; rw [e, hm])), hne⟩, hbx, ((keepsFrom_ext hx).trans (keepsFrom_ownS hy.ow hg)).trans ((KeepsOthers.setCell _ _ _).from _), ?_⟩
  have h1 : BelowX n [q] X Y := .ofXl (Xl.of hx) h.sz
  have h2 : BelowX n [q] Y Z := ⟨hg.os, hg.tape, hg.output, hg.size, fun k hk hn => hg.block k (Nat.lt_of_lt_of_le hk hy.sz) (fun e => by have := (World.ownsRow.lt hy.ow k e.symm).1; omega)⟩
  exact (h1.trans h2).setCell (.inr (by simp))
def vEq (p : Ent × Ent) : Bool := decide (p.1.ctr = p.2.ctr ∧ p.1.node = p.2.node)
def dKey (p : Ent × Ent) : ByteArray := (if thereE p.1 = true then p.1 else p.2).key
def difL (ps : List (Ent × Ent)) : List ByteArray := (ps.filter (fun p => !vEq p)).map dKey
theorem difL_snoc (ps : List (Ent × Ent)) (p : Ent × Ent) : difL (ps ++ [p]) = if vEq p = true then difL ps else difL ps ++ [dKey p] := by
  unfold difL
  rw [List.filter_append, List.map_append]
  rcases h : vEq p with _ | _ <;> simp [h]
def difR (a b : List Ent) : List ByteArray := if chk2 a b = 0 then difL (prs a b) else []
theorem difL_len (ps : List (Ent × Ent)) : (difL ps).length ≤ ps.length := by
  unfold difL
  rw [List.length_map]
  exact List.length_filter_le _ _
theorem mDiffer_any {w : World} (a b : List Ent) (av bv : Value) (hs : EntSl w av a) (hs' : EntSl w bv b) (hla : a.length ≤ 300000000) (hlb : b.length ≤ 300000000) :
    Calls Tryd.prog 12 #[av, bv] w fun e w' => ∃ v, e = .returned (.tuple #[v, .int .i64 (chk2 a b)]) ∧ OwS w' w.heap.size v (difR a b) ∧ Ext w w' := by
  have HS := hid_mk (And.intro hs hs')
  have HLL := hid_mk (And.intro hla hlb)
  have HAW := hid_mk (And.intro (fun (q : Nat) (hq : w.heap.size ≤ q) => EAway.of_lt (L := [q]) hs (by simp; exact hq)) (fun (q : Nat) (hq : w.heap.size ≤ q) => EAway.of_lt (L := [q]) hs' (by simp; exact hq)))
  obtain ⟨xa, xc, rfl, -⟩ := hs
  obtain ⟨ya, yc, rfl, -⟩ := hs'
  obtain ⟨z, hz⟩ : ∃ z, chk2 a b = z := ⟨_, rfl⟩
  have HZ := hid_mk hz
  rw [hz]
  clear hla hlb hz
  by_cases hz0 : z = 0
  · subst hz0
    have HMR := hid_mk (show difR a b = difL (prs a b) by rw [difR, if_pos HZ.out])
    rw [HMR.out]
    refine (callsIn_wide (n := 5)).1 ?_
    refine callsIn_of_wp_marks Tryd.func12 rfl trivial (wpIn_wide.2 (wp_mono ?_ (np_of (Q := _)))) rfl
    simp only [Tryd.ntmps12, List.size_toArray, List.length_cons, List.length_nil, Nat.reduceAdd, Nat.reduceSub, Array.replicate_succ, Array.replicate_zero, List.push_toArray, List.append_toArray, List.nil_append, List.cons_append]
    go_wp2_with fail
    refine (mCheck2_any a b _ _ _ HS.out.1 HS.out.2).mono ?_
    rintro e w1 ⟨rfl, hx1⟩
    rw [show (if mChk a ≠ 0 then mChk a else mChk b) = 0 from HZ.out]
    have HMI1 := hid_mk (show MS w w.heap.size w1.heap.size [] (.slice none 0 0) (w1.alloc (.cells #[.slice none 0 0] 33)) from ⟨(Ext.trans _ _ _ hx1 ((Ext.refl _).alloc _)).below, hx1.below.size, Nat.le_refl _, by have := hx1.below.size; simp; omega, Boxed.new w1 33 (.slice none 0 0), ownS_nil _ _, by simp [Value.ownBlock]⟩)
    obtain ⟨q, hq⟩ : ∃ q, w1.heap.size = q := ⟨_, rfl⟩
    clear hx1
    go_wp2_with fail
    refine (mPairs_new _ _ _ ⟨_, _, _, rfl⟩ ⟨_, _, _, rfl⟩).mono ?_
    rintro e w3 ⟨ab, bb, rfl, hc1, hc2, hfr, hx3⟩
    have HMI3 := hid_mk (show MS w w3.heap.size _ [] (.slice none 0 0) w3 from ⟨(HMI1.out.ext hx3).bl, (HMI1.out.ext hx3).lo, (HMI1.out.ext hx3).bl.size, Nat.le_refl _, (HMI1.out.ext hx3).bx, ownS_nil _ _, (HMI1.out.ext hx3).ne⟩)
    have HAB := hid_mk (And.intro hc1 (And.intro hc2 (And.intro (show ab ≠ q from fun e => by have := HMI1.out.bx.lt; omega) (show bb ≠ q from fun e => by have := HMI1.out.bx.lt; omega))))
    rw [hq] at HMI3
    have hz3 : q < w3.heap.size := HMI3.out.bx.lt
    have hzw : w.heap.size ≤ q := HMI3.out.lo
    clear hc1 hc2 hx3 HMI1 hq
    go_wp2_with fail
    refine gen_act (fun T HT => ?_)
    refine (wpIn_wide (n := 5)).1 ?_
    refine wpIn_rangeFunc_ownH (F := Fence.wide) (n := 5) (encs := fun x : Ent × Ent => #[entV x.1, entV x.2]) rfl (by omega) (gf := 47) (lb := #[.pointer (some ⟨ab, 0, none⟩), .pointer (some ⟨bb, 0, none⟩)]) (by rw [HT.out]; rfl) trivial (enters_of Tryd.func47 (by kernel_rfl) rfl)
      (pairs_stopsX [q] ab bb _ _ a b w3 HAB.out.1 HAB.out.2.1 (HS.out.1.ext (Ext.of HMI3.out.bl)) (HS.out.2.ext (Ext.of HMI3.out.bl)) (by simp; exact HAB.out.2.2.1) (by simp; exact HAB.out.2.2.2) (HAW.out.1 q hzw) (HAW.out.2 q hzw)) belowX_t (belowX_b (by omega)) (Below.refl _ _) (fun _ => rfl)
      (fun pre X => (∃ v, MS w w3.heap.size q (difL pre) v X) ∧ True)
      (fun c pre X => False)
      (fun s X Y row h hg hr => ⟨h.1.imp (fun v hv => MS.own (by omega) () X Y row hv hg hr), trivial⟩)
      (fun c s X Y row h hg hr => h)
      ⟨⟨_, HMI3.out⟩, trivial⟩
      (fun x a' X => ∃ B1 B2 v, X.heap[B1]? = some (.cells (cE x.1).toArray 55 (0, 0)) ∧ EntAt X B2 0 x.2 ∧ Boxed X q 33 v ∧ (∀ g, v.ownBlock = some g → g < B1) ∧ q < B1 ∧ B1 < B2 ∧ w3.heap.size ≤ B1 ∧ Hid (a' = { tmps := ((Array.foldl (fun t (x : Nat × Value) => t.setIfInBounds x.1 x.2) T (#[19, 20].zip #[entV x.1, entV x.2])).setIfInBounds 8 (.pointer (some ⟨B1, 0, none⟩))).setIfInBounds 9 (.pointer (some ⟨B2, 0, none⟩)), defers := [] }))
      (fun x a' _ X Y row hs hg hr => by
        obtain ⟨B1, B2, v, h1, h2, h3, h4⟩ := hs
        exact ⟨B1, B2, v, blk_kept h1 rfl hg (fun r e => (hr r e).2), entAt_own h2 hg (fun r e => (hr r e).2), blk_kept h3 rfl hg (fun r e => (hr r e).2), h4⟩)
      ?assign ?body ?done ?stop
    case assign =>
      rintro lp pre x X K ⟨⟨v, hmi⟩, hB⟩ hK
      rw [fold2, HT.out]
      simp only [List.setIfInBounds_toArray, List.set_cons_succ, List.set_cons_zero]
      gi_wp2
      have hx : Ext X ((X.alloc (.cells #[.string x.1.key, .int .i64 x.1.ctr, .int .i64 x.1.node, .string x.1.val, .bool x.1.dead] 55)).alloc (.cells #[.string x.2.key, .int .i64 x.2.ctr, .int .i64 x.2.node, .string x.2.val, .bool x.2.dead] 55)) := by (repeat (first | exact Ext.refl _ | apply Ext.drew_left | apply Ext.drew | apply Ext.alloc))
      have hb1 := heap_alloc_new X (.cells #[.string x.1.key, .int .i64 x.1.ctr, .int .i64 x.1.node, .string x.1.val, .bool x.1.dead] 55)
      have hb2 := ((Ext.refl (X.alloc (.cells #[.string x.1.key, .int .i64 x.1.ctr, .int .i64 x.1.node, .string x.1.val, .bool x.1.dead] 55))).alloc (.cells #[.string x.2.key, .int .i64 x.2.ctr, .int .i64 x.2.node, .string x.2.val, .bool x.2.dead] 55)).below.block X.heap.size (by simp)
      have hq := hmi.bx.lt
      exact hK _ _ (keepsFrom_ext hx) (.ofXl (Xl.of hx) hmi.sz) ⟨⟨v, hmi.ext hx⟩, trivial⟩ ⟨X.heap.size, X.heap.size + 1, v, hb2.trans hb1, ⟨by go_simp, by go_simp, by go_simp, by go_simp, by go_simp⟩, (hmi.ext hx).bx, hmi.own_lt, hq, Nat.lt_succ_self _, hmi.sz, hid_mk (by rw [fold2, HT.out]; rfl)⟩
    case body =>
      rintro lp pre x a' X hl hr ⟨⟨v, hmi⟩, hB⟩ ⟨B1, B2, v', hb1, hb2, hbv, hvl, hqB, hBB, hB1n, ha⟩ hlt
      obtain rfl : v = v' := by
        have e := hmi.bx.symm.trans hbv
        cases e
        rfl
      rw [ha.out, fold2, HT.out]
      simp only [List.setIfInBounds_toArray, List.set_cons_succ, List.set_cons_zero]
      clear hr ha
      have HSX := hid_mk hmi
      have HB1 := hid_mk hb1
      have HB1N := hid_mk hB1n
      have HB2 := hid_mk hb2
      have HVL := hid_mk hvl
      have hbl1 : B1 < X.heap.size := (Array.getElem?_eq_some_iff.1 hb1).1
      have hbl2 := cell_lt hb2.c0
      have p0 : X.cell? ⟨B1, 0, none⟩ = some (.string x.1.key) := by simp [World.cell?, hb1, cE]
      have p1 : X.cell? ⟨B1, 1, none⟩ = some (.int .i64 x.1.ctr) := by simp [World.cell?, hb1, cE]
      have p2 : X.cell? ⟨B1, 2, none⟩ = some (.int .i64 x.1.node) := by simp [World.cell?, hb1, cE]
      have p3 : X.cell? ⟨B1, 3, none⟩ = some (.string x.1.val) := by simp [World.cell?, hb1, cE]
      have p4 : X.cell? ⟨B1, 4, none⟩ = some (.bool x.1.dead) := by simp [World.cell?, hb1, cE]
      clear hmi hb1 hb2 hbv hvl
      obtain ⟨e0, e1, e2, e3, e4⟩ := HB2.out
      have hl2 := cell_lt e0
      have HPL := hid_mk (show pre.length ≤ 600000000 by have := prs_len a b; have := HLL.out; omega)
      obtain ⟨ve, hve⟩ : ∃ ve, vEq x = ve := ⟨_, rfl⟩
      have HVE := hid_mk hve
      unfold vEq at hve
      cases ve with
      | true =>
        gi_wp2
        exact ⟨keepsFrom_ext (Ext.refl _), BelowX.refl, ⟨v, by rw [difL_snoc, if_pos HVE.out]; exact HSX.out⟩, trivial⟩
      | false =>
        obtain ⟨th, hth⟩ : ∃ th, thereE x.1 = th := ⟨_, rfl⟩
        have HTH := hid_mk hth
        clear hth
        gi_wp2_with fail
        refine ⟨trivial, CallsIn.mono (calls_round (there_any x.1 X)) ?_⟩
        rintro e X2 ⟨rfl, hx2⟩
        rw [HTH.out]
        have HX2 := hid_mk hx2
        replace p0 := cell_ext hx2 p0
        replace p1 := cell_ext hx2 p1
        replace p2 := cell_ext hx2 p2
        replace p3 := cell_ext hx2 p3
        replace p4 := cell_ext hx2 p4
        replace e0 := cell_ext hx2 e0
        replace e1 := cell_ext hx2 e1
        replace e2 := cell_ext hx2 e2
        replace e3 := cell_ext hx2 e3
        replace e4 := cell_ext hx2 e4
        have hl1 := cell_lt p0
        replace hl2 := cell_lt e0
        clear hx2 hve
        cases th with
        | true =>
          have HMB := hid_mk (show dKey x = x.1.key by rw [dKey, if_pos HTH.out])
          gi_upto_region 11 with fail
          refine gen_wpIn (fun W => MS w w3.heap.size q (difL pre) v W ∧ EntAt W B1 0 x.1 ∧ KeepsFrom w3.heap.size X W ∧ BelowX w3.heap.size [q] X W) ⟨HSX.out.ext HX2.out, ⟨p0, p1, p2, p3, p4⟩, keepsFrom_ext HX2.out, .ofXl (Xl.of HX2.out) HSX.out.sz⟩ ?_
          rintro Y ⟨hmi, ⟨y0, y1, y2, y3, y4⟩, hkf, hbx⟩
          have HY := hid_mk hmi
          have HKB := hid_mk (And.intro hkf hbx)
          have c0 := hmi.bx.cell
          have cl := cell_lt c0
          have yl := cell_lt y0
          clear hmi hkf hbx y1 y2 y3 y4
          have hx4 : Ext Y (Y.alloc (.cells #[.string x.1.key] 9)) := (Ext.refl Y).alloc _
          obtain ⟨v', w', hrun, ho, hg, hob⟩ := appendS (w := Y.alloc (.cells #[.string x.1.key] 9)) (HY.out.ext hx4).ow (heap_alloc_new Y _) (by have := difL_len pre; have := HPL.out; omega) (Nat.le_trans HY.out.sz hx4.below.size)
          obtain ⟨va, vc, rfl⟩ := own_form ho
          have HMA := hid_mk (HY.out.app hx4 hg ho hob)
          have k0 := HMA.out.2.1.cell
          have k1 := HMA.out.2.1.frozen
          have kl := cell_lt k0
          rw [show (difL pre ++ [x.1.key]).length = (difL pre).length + 1 by simp] at hrun
          clear hx4 hg ho hob
          gi_wp2
          have h := HMA.out
          rw [show (difL pre ++ [x.1.key]).length = (difL pre).length + 1 by simp] at h
          exact ⟨HKB.out.1.trans h.2.2.1, HKB.out.2.trans h.2.2.2, ⟨_, by rw [difL_snoc, if_neg (by rw [HVE.out]; simp), HMB.out]; exact h.1⟩, trivial⟩
        | false =>
          have HMB := hid_mk (show dKey x = x.2.key by rw [dKey, if_neg (by rw [HTH.out]; simp)])
          have hbb := (HX2.out.below.block B1 hbl1).trans HB1.out
          have f0 : X2.frozen? ⟨B1, 0, none⟩ = false := by simp [World.frozen?, hbb]
          have f1 : X2.frozen? ⟨B1, 1, none⟩ = false := by simp [World.frozen?, hbb]
          have f2 : X2.frozen? ⟨B1, 2, none⟩ = false := by simp [World.frozen?, hbb]
          have f3 : X2.frozen? ⟨B1, 3, none⟩ = false := by simp [World.frozen?, hbb]
          have f4 : X2.frozen? ⟨B1, 4, none⟩ = false := by simp [World.frozen?, hbb]
          clear hbb
          gi_upto_region 11 with fail
          have HMS := hid_mk (((((HSX.out.ext HX2.out).other hqB HVL.out (o := 0) (u := .string x.2.key)).other hqB HVL.out (o := 1) (u := .int .i64 x.2.ctr)).other hqB HVL.out (o := 2) (u := .int .i64 x.2.node)).other hqB HVL.out (o := 3) (u := .string x.2.val) |>.other hqB HVL.out (o := 4) (u := .bool x.2.dead))
          refine gen_wpIn (fun W => MS w w3.heap.size q (difL pre) v W ∧ EntAt W B1 0 x.2 ∧ KeepsFrom w3.heap.size X W ∧ BelowX w3.heap.size [q] X W) ⟨HMS.out, ⟨by go_simp, by go_simp, by go_simp, by go_simp, by go_simp⟩, ((((((keepsFrom_ext HX2.out).trans ((KeepsOthers.setCell _ _ _).from _)).trans ((KeepsOthers.setCell _ _ _).from _)).trans ((KeepsOthers.setCell _ _ _).from _)).trans ((KeepsOthers.setCell _ _ _).from _)).trans ((KeepsOthers.setCell _ _ _).from _)), (BelowX.ofXl (Xl.of HX2.out) HSX.out.sz).trans ((((((BelowX.refl).setCell (.inl HB1N.out)).setCell (.inl HB1N.out)).setCell (.inl HB1N.out)).setCell (.inl HB1N.out)).setCell (.inl HB1N.out))⟩ ?_
          rintro Y ⟨hmi, ⟨y0, y1, y2, y3, y4⟩, hkf, hbx⟩
          have HY := hid_mk hmi
          have HKB := hid_mk (And.intro hkf hbx)
          have c0 := hmi.bx.cell
          have cl := cell_lt c0
          have yl := cell_lt y0
          clear hmi hkf hbx y1 y2 y3 y4
          have hx4 : Ext Y (Y.alloc (.cells #[.string x.2.key] 9)) := (Ext.refl Y).alloc _
          obtain ⟨v', w', hrun, ho, hg, hob⟩ := appendS (w := Y.alloc (.cells #[.string x.2.key] 9)) (HY.out.ext hx4).ow (heap_alloc_new Y _) (by have := difL_len pre; have := HPL.out; omega) (Nat.le_trans HY.out.sz hx4.below.size)
          obtain ⟨va, vc, rfl⟩ := own_form ho
          have HMA := hid_mk (HY.out.app hx4 hg ho hob)
          have k0 := HMA.out.2.1.cell
          have k1 := HMA.out.2.1.frozen
          have kl := cell_lt k0
          rw [show (difL pre ++ [x.2.key]).length = (difL pre).length + 1 by simp] at hrun
          clear hx4 hg ho hob
          gi_wp2
          have h := HMA.out
          rw [show (difL pre ++ [x.2.key]).length = (difL pre).length + 1 by simp] at h
          exact ⟨HKB.out.1.trans h.2.2.1, HKB.out.2.trans h.2.2.2, ⟨_, by rw [difL_snoc, if_neg (by rw [HVE.out]; simp), HMB.out]; exact h.1⟩, trivial⟩
    case done =>
      rintro D zs X hD hS ⟨⟨v, hmi⟩, -⟩ hK
      obtain rfl : zs = prs a b := hS
      have HMX := hid_mk hmi
      have r1 := hmi.bx.cell
      have gl1 := hmi.bx.lt
      have HKK := hid_mk hK
      clear hmi hK
      rw [HT.out]
      go_wp2
      show LeavesInM Fence.wide 5 Tryd.prog Tryd.f12 _ _ _ _ _
      refine ⟨by simp, .inl ⟨_, _, rfl, run_takeDeferred HKK.out, ?_⟩⟩
      refine ⟨.tuple #[v, .int .i64 0], ?_, v, rfl, ?_⟩
      · unfold results
        rw [Tryd.results12]
        simp [go_sem]
      · have hbD := belowK_b (w := w) (Nat.le_refl _) X D (.deferred (some [])) (.deferred none) (by omega) HKK.out rfl rfl
        exact ⟨(HMX.out.ow.kept (grownBy_putObj' _ D (.deferred none)) (fun r e => by cases e; exact ⟨_, HKK.out, rfl⟩)).lower HMX.out.ln, Ext.of (HMX.out.bl.trans hbD)⟩
    case stop =>
      rintro D c pre X hD hS h hK
      exact h.elim
  · have HMR := hid_mk (show difR a b = [] by rw [difR, if_neg (by rw [HZ.out]; exact hz0)])
    rw [HMR.out]
    go_enter Tryd.func12, Tryd.ntmps12
    go_wp2_with fail
    refine (mCheck2_any a b _ _ _ HS.out.1 HS.out.2).mono ?_
    rintro e w1 ⟨rfl, hx1⟩
    rw [show (if mChk a ≠ 0 then mChk a else mChk b) = z from HZ.out]
    have HX1 := hid_mk hx1
    have hb : (z == 0) = false := by rw [beq_eq_false_iff_ne]; exact hz0
    clear hx1
    go_wp2
    refine bodyPost_ret (v := .tuple #[.slice none 0 0, .int .i64 z]) (by unfold results; rw [Tryd.results12]; go_simp; first | done | rfl) rfl ⟨_, rfl, ownS_nil _ _, HX1.out⟩
end Go.Proofs.YtiimoaplhhnklaaDoor
namespace Go.Proofs.YtiimoaplhhnklaaDoor
open Go.RowKit
set_option maxHeartbeats 4000000
set_option maxRecDepth 100000
set_option linter.unusedSimpArgs false
set_option linter.unusedVariables false
attribute [local go_sem ↓] eql_ver neq_ver
attribute [-go_sem] Builtin.append_

theorem r9Differ_eq {w : World} (a b : List Ent) (av bv : Value) (hs : EntSl w av a) (hs' : EntSl w bv b) (hla : a.length ≤ 300000000) (hlb : b.length ≤ 300000000) (hq : chk2 a b = 0 → ∀ p ∈ prs a b, vEq p = true) :
    Calls Tryd.prog 41 #[av, bv] w fun e w' => ∃ g c, e = .returned (.tuple #[.slice g 0 c, .int .i64 (chk2 a b)]) ∧ Ext w w' := by
  have HS := hid_mk (And.intro hs hs')
  have HLL := hid_mk (And.intro hla hlb)
  have HQ := hid_mk hq
  obtain ⟨xa, xc, rfl, -⟩ := hs
  obtain ⟨ya, yc, rfl, -⟩ := hs'
  obtain ⟨z, hz⟩ : ∃ z, chk2 a b = z := ⟨_, rfl⟩
  have HZ := hid_mk hz
  rw [hz]
  clear hla hlb hz hq
  by_cases hz0 : z = 0
  · subst hz0
    have HQ2 := hid_mk (HQ.out HZ.out)
    obtain ⟨ps, hps⟩ : ∃ ps, prs a b = ps := ⟨_, rfl⟩
    have HPS := hid_mk hps
    rw [hps] at HQ2
    clear hps HQ
    have HAB0 := hid_mk (show mChk a = 0 ∧ mChk b = 0 by
      have h := HZ.out
      unfold chk2 at h
      split at h
      · rename_i h1; exact absurd h h1
      · rename_i h1; exact ⟨by simpa using h1, h⟩)
    go_enter Tryd.func41, Tryd.ntmps41
    go_wp2_with fail
    refine (r9Check2_any a b _ _ _ HS.out.1 HS.out.2).mono ?_
    rintro e W1 ⟨rfl, hx1⟩
    rw [show (if mChk a ≠ 0 then mChk a else mChk b) = 0 from HZ.out]
    have HX1 := hid_mk hx1
    clear hx1
    go_wp2_with fail
    refine (r9Pairs_big a b _ _ _ (HS.out.1.ext HX1.out) (HS.out.2.ext HX1.out) HAB0.out.1 HAB0.out.2 HLL.out.1 HLL.out.2).mono ?_
    rintro e W2 ⟨pv, rfl, hop, hx2⟩
    have HX2 := hid_mk (Ext.trans _ _ _ HX1.out hx2)
    rw [HPS.out] at hop
    have HPL := hid_mk (show ps.length ≤ 600000000 by
      have := prs_len a b
      have := HLL.out
      rw [HPS.out] at *
      omega)
    have HOP := hid_mk (fun (hp : 0 < ps.length) => ownP_at hop hp)
    obtain ⟨pa, pc, rfl⟩ := own_form hop
    clear hop hx2 HX1
    go_wp2_with fail
    go_loopw [8, 9] (fun v i wr => ∃ m : Nat, m ≤ ps.length ∧ i = .int .i64 (m : Int) ∧ (∃ g c, v = .slice g 0 c) ∧ Ext W2 wr) (fun v i _ => ps.length - (intOf i).toNat)
    case atStart => exact ⟨0, Nat.zero_le _, rfl, ⟨_, _, rfl⟩, by (repeat (first | exact Ext.refl _ | apply Ext.drew_left | apply Ext.drew | apply Ext.alloc))⟩
    case round =>
      obtain ⟨m, hm, rfl, ⟨og, oc, rfl⟩, hx⟩ := hrel
      have HX := hid_mk hx
      clear hx
      by_cases hlt : m < ps.length
      · obtain ⟨g, c', e', hat⟩ := HOP.out (by omega)
        cases e'
        obtain ⟨⟨p0, p1, p2, p3, p4⟩, ⟨q0, q1, q2, q3, q4⟩⟩ := hat m hlt
        replace p0 := cell_ext HX.out p0
        replace p1 := cell_ext HX.out p1
        replace p2 := cell_ext HX.out p2
        replace p3 := cell_ext HX.out p3
        replace p4 := cell_ext HX.out p4
        replace q0 := cell_ext HX.out q0
        replace q1 := cell_ext HX.out q1
        replace q2 := cell_ext HX.out q2
        replace q3 := cell_ext HX.out q3
        replace q4 := cell_ext HX.out q4
        have hgl := cell_lt p0
        have hve : vEq ps[m] = true := HQ2.out _ (List.getElem_mem hlt)
        obtain ⟨x, hxx⟩ : ∃ x, ps[m] = x := ⟨_, rfl⟩
        rw [hxx] at p0 p1 p2 p3 p4 q0 q1 q2 q3 q4 hve
        unfold vEq at hve
        have hvn : decide (¬ (x.1.ctr = x.2.ctr ∧ x.1.node = x.2.node)) = false := by rw [decide_not, hve]; rfl
        have hm1 : (m : Int) < (ps.length : Int) := by omega
        have hm0 : (0 : Int) ≤ (m : Int) := by omega
        have HW := hid_mk (show wrap64 ((m : Int) + 1) = (m : Int) + 1 from w64in (by have := HPL.out; omega))
        obtain ⟨hv1, hv2⟩ := of_decide_eq_true hve
        have HV := hid_mk (And.intro hv1 hv2)
        clear hat hxx hve
        rw [hv1] at p1 hvn
        rw [hv2] at p2 hvn
        clear hv1 hv2 hvn
        go_wp2_with fail
        refine wp_region_held_below (fun _ => true) (.quiet 0 (.quiet 1 (.quiet 2 (.quiet 3 (.quiet 4 (.quiet 5 (.quiet 6 (.quiet 7 (.quiet 8 (.quiet 9 (.quiet 10 (.quiet 11 (.quiet 12 .done))))))))))))) (by kernel_rfl) (by kernel_rfl) (by intro c a w d v h; cases d <;> exact h) (fun ops HO => ?_)
        refine plan_read _ (hi_of HO rfl) rfl (fun w' hE => by (repeat (with_reducible replace hE := Ext.unD hE)); have hcE := hE.hc; clear hE; go_simp; rfl) ?_
        simp only [Act.put, List.setIfInBounds_toArray, List.set_cons_succ, List.set_cons_zero]
        refine plan_read _ (hi_of HO rfl) rfl (fun w' hE => by (repeat (with_reducible replace hE := Ext.unD hE)); have hcE := hE.hc; clear hE; go_simp; rfl) ?_
        simp only [Act.put, List.setIfInBounds_toArray, List.set_cons_succ, List.set_cons_zero]
        refine plan_read _ (hi_of HO rfl) rfl (fun w' hE => by (repeat (with_reducible replace hE := Ext.unD hE)); have hcE := hE.hc; clear hE; go_simp; rfl) ?_
        simp only [Act.put, List.setIfInBounds_toArray, List.set_cons_succ, List.set_cons_zero]
        refine plan_read _ (hi_of HO rfl) rfl (fun w' hE => by (repeat (with_reducible replace hE := Ext.unD hE)); have hcE := hE.hc; clear hE; go_simp; rfl) ?_
        simp only [Act.put, List.setIfInBounds_toArray, List.set_cons_succ, List.set_cons_zero]
        refine plan_read _ (hi_of HO rfl) rfl (fun w' hE => by (repeat (with_reducible replace hE := Ext.unD hE)); have hcE := hE.hc; clear hE; go_simp; rfl) ?_
        simp only [Act.put, List.setIfInBounds_toArray, List.set_cons_succ, List.set_cons_zero]
        refine plan_read _ (hi_of HO rfl) rfl (fun w' hE => by (repeat (with_reducible replace hE := Ext.unD hE)); have hcE := hE.hc; clear hE; go_simp; rfl) ?_
        simp only [Act.put, List.setIfInBounds_toArray, List.set_cons_succ, List.set_cons_zero]
        refine plan_read _ (hi_of HO rfl) rfl (fun w' hE => by (repeat (with_reducible replace hE := Ext.unD hE)); have hcE := hE.hc; clear hE; go_simp; rfl) ?_
        simp only [Act.put, List.setIfInBounds_toArray, List.set_cons_succ, List.set_cons_zero]
        refine plan_read _ (hi_of HO rfl) rfl (fun w' hE => by (repeat (with_reducible replace hE := Ext.unD hE)); have hcE := hE.hc; clear hE; go_simp; rfl) ?_
        simp only [Act.put, List.setIfInBounds_toArray, List.set_cons_succ, List.set_cons_zero]
        refine plan_read _ (hi_of HO rfl) rfl (fun w' hE => by (repeat (with_reducible replace hE := Ext.unD hE)); have hcE := hE.hc; clear hE; go_simp; rfl) ?_
        simp only [Act.put, List.setIfInBounds_toArray, List.set_cons_succ, List.set_cons_zero]
        refine plan_read _ (hi_of HO rfl) rfl (fun w' hE => by (repeat (with_reducible replace hE := Ext.unD hE)); have hcE := hE.hc; clear hE; go_simp; rfl) ?_
        simp only [Act.put, List.setIfInBounds_toArray, List.set_cons_succ, List.set_cons_zero]
        refine plan_read _ (hi_of HO rfl) rfl (fun w' hE => by (repeat (with_reducible replace hE := Ext.unD hE)); have hcE := hE.hc; clear hE; go_simp; rfl) ?_
        simp only [Act.put, List.setIfInBounds_toArray, List.set_cons_succ, List.set_cons_zero]
        refine plan_read _ (hi_of HO rfl) rfl (fun w' hE => by (repeat (with_reducible replace hE := Ext.unD hE)); have hcE := hE.hc; clear hE; go_simp; rfl) ?_
        simp only [Act.put, List.setIfInBounds_toArray, List.set_cons_succ, List.set_cons_zero]
        refine plan_read _ (hi_of HO rfl) rfl (fun w' hE => by (repeat (with_reducible replace hE := Ext.unD hE)); have hcE := hE.hc; clear hE; go_simp; rfl) ?_
        simp only [Act.put, List.setIfInBounds_toArray, List.set_cons_succ, List.set_cons_zero]
        refine plan_done ?fin101
        go_wp2
        go_roundw
        case rel => exact ⟨m + 1, hlt, (by first | exact congrArg (Value.int .i64) HW.out | rfl), ⟨_, _, rfl⟩, by first | exact HX.out | exact Ext.drew HX.out⟩
        case measure => (try simp only [HW.out]); simp [intOf]; omega
      · obtain rfl : m = ps.length := by omega
        have hmm : ¬ ((ps.length : Nat) : Int) < (ps.length : Int) := by omega
        have HXF := hid_mk (Ext.trans _ _ _ HX2.out HX.out)
        go_wp2
        refine bodyPost_ret (v := .tuple #[.slice og 0 oc, .int .i64 0]) (by unfold results; rw [Tryd.results41]; go_simp; first | done | rfl) rfl ?_
        exact ⟨⟨_, _, rfl⟩, HXF.out⟩
  · go_enter Tryd.func41, Tryd.ntmps41
    go_wp2_with fail
    refine (r9Check2_any a b _ _ _ HS.out.1 HS.out.2).mono ?_
    rintro e w1 ⟨rfl, hx1⟩
    rw [show (if mChk a ≠ 0 then mChk a else mChk b) = z from HZ.out]
    have HX1 := hid_mk hx1
    have hb : (z == 0) = false := by rw [beq_eq_false_iff_ne]; exact hz0
    clear hx1
    go_wp2
    refine bodyPost_ret (v := .tuple #[.slice none 0 0, .int .i64 z]) (by unfold results; rw [Tryd.results41]; go_simp; first | done | rfl) rfl ⟨_, _, rfl, HX1.out⟩
theorem ralike_eq {w : World} (a b : List Ent) (av bv : Value) (hs : EntSl w av a) (hs' : EntSl w bv b) (hla : a.length ≤ 300000000) (hlb : b.length ≤ 300000000) (hq : chk2 a b = 0 → ∀ p ∈ prs a b, vEq p = true) :
    Calls Tryd.prog 32 #[av, bv] w fun e w' => e = .returned (.bool true) ∧ Ext w w' := by
  go_enter Tryd.func32, Tryd.ntmps32
  go_wp2_with fail
  refine (r9Differ_eq a b _ _ hs hs' hla hlb hq).mono ?_
  rintro e w1 ⟨g, c, rfl, hx1⟩
  have HX1 := hid_mk hx1
  clear hx1 hs hs'
  go_wp2
  go_ret
  exact ⟨rfl, HX1.out⟩
theorem difR_nil {a b : List Ent} (hq : chk2 a b = 0 → ∀ p ∈ prs a b, vEq p = true) : difR a b = [] := by
  unfold difR
  split
  · rename_i h
    unfold difL
    rw [List.filter_eq_nil_iff.2 (fun p hp => by simp [hq h p hp])]
    rfl
  · rfl
def alikeB (a b : List Ent) : Bool := (difR a b).isEmpty
theorem alike_any {w : World} (a b : List Ent) (av bv : Value) (hs : EntSl w av a) (hs' : EntSl w bv b) (hla : a.length ≤ 300000000) (hlb : b.length ≤ 300000000) :
    Calls Tryd.prog 31 #[av, bv] w fun e w' => e = .returned (.bool (alikeB a b)) ∧ Ext w w' := by
  unfold alikeB
  obtain ⟨d, hd⟩ : ∃ d, difR a b = d := ⟨_, rfl⟩
  have HD := hid_mk hd
  rw [hd]
  go_enter Tryd.func31, Tryd.ntmps31
  go_wp2_with fail
  refine (mDiffer_any a b _ _ hs hs' hla hlb).mono ?_
  rintro e w1 ⟨v, rfl, ho, hx1⟩
  have HX1 := hid_mk hx1
  rw [HD.out] at ho
  obtain ⟨g, c, rfl⟩ := own_form ho
  clear hx1 hs hs' ho hd
  go_wp2
  go_ret
  exact ⟨ret_bool (by cases d <;> simp <;> omega), HX1.out⟩
end Go.Proofs.YtiimoaplhhnklaaDoor
