/- Ghosts: merge's Above, where it is so. -/
import Derived.Test.YtiimoaplhhnklaaHE
namespace Go.Proofs.Ytiimoaplhhnklaa
open Go.RowKit Go.Shelf
set_option maxHeartbeats 4000000
set_option maxRecDepth 100000
set_option linter.unusedSimpArgs false
set_option linter.unusedVariables false
attribute [local go_sem] Oper.semAt_some
attribute [local go_sem ↓] eql_entE neq_entE

structure AI (w : World) (X : World) : Prop where
  bl : Below w.heap.size w X
  b1 : Boxed X w.heap.size 4 (.bool false)
  b2 : Boxed X (w.heap.size + 1) 40 (.int .i64 0)
theorem AI.own {w : World} {B : Nat} (hB : w.heap.size ≤ B) : OwnFrom (β := Unit) B (fun _ X => AI w X) := fun s X Y row h hg hr => by
  have hr' : ∀ r, row = some r → ∃ o : Obj, X.heap[r]? = some o ∧ o.isCells = false := fun r e => (hr r e).2
  exact ⟨ownFrom_below (β := Unit) (Nat.le_refl _) hB s X Y row h.bl hg hr, boxed_own (β := Unit) _ _ (fun _ => _) s X Y row h.b1 hg hr', boxed_own (β := Unit) _ _ (fun _ => _) s X Y row h.b2 hg hr'⟩
theorem AI.ext {w X Y : World} (h : AI w X) (hx : Ext X Y) : AI w Y :=
  ⟨h.bl.trans (hx.below.mono h.bl.size), (hx.below.block _ h.b1.lt).trans h.b1, (hx.below.block _ h.b2.lt).trans h.b2⟩
theorem mAbove_any {w : World} (a b : List Ent) (av bv : Value) (hs : EntSl w av a) (hs' : EntSl w bv b) (ha : mChk a = 0) (hb : mChk b = 0) (hup : ∀ p ∈ prs a b, newer p.2 p.1 = false) :
    Calls Try.prog 19 #[av, bv] w fun e w' => e = .returned (.tuple #[.bool true, .int .i64 0]) ∧ Ext w w' := by
  have HS := hid_mk (And.intro hs hs')
  have HUP := hid_mk hup
  have HM := hid_mk (show (if mChk a ≠ 0 then mChk a else mChk b) = 0 by rw [ha, hb]; rfl)
  obtain ⟨xa, xc, rfl, -⟩ := hs
  obtain ⟨ya, yc, rfl, -⟩ := hs'
  clear ha hb hup
  refine (callsIn_wide (n := 5)).1 ?_
  refine callsIn_of_wp_marks Try.func19 rfl trivial (wpIn_wide.2 (wp_mono ?_ (np_of (Q := _)))) rfl
  simp only [Try.ntmps19, List.size_toArray, List.length_cons, List.length_nil, Nat.reduceAdd, Nat.reduceSub, Array.replicate_succ, Array.replicate_zero, List.push_toArray, List.append_toArray, List.nil_append, List.cons_append]
  go_wp2_with fail
  have hx0 : Ext w ((w.alloc (.cells #[.bool false] 4)).alloc (.cells #[.int .i64 0] 40)) := by (repeat (first | exact Ext.refl _ | apply Ext.drew_left | apply Ext.drew | apply Ext.alloc))
  have b1 := Boxed.alloc (Boxed.new w 4 (.bool false)) (.cells #[.int .i64 0] 40)
  have b2 := Boxed.new (w.alloc (.cells #[.bool false] 4)) 40 (.int .i64 0)
  simp only [World.size_alloc] at b2
  have HAI := hid_mk (show AI w _ from ⟨hx0.below, b1, b2⟩)
  clear hx0 b1 b2
  refine (mCheck2_any a b _ _ _ (HS.out.1.ext (Ext.of HAI.out.bl)) (HS.out.2.ext (Ext.of HAI.out.bl))).mono ?_
  rintro e w1 ⟨rfl, hx1⟩
  rw [HM.out]
  have HAI1 := hid_mk (HAI.out.ext hx1)
  clear hx1 HAI
  go_wp2_with fail
  refine (mPairs_any _ _ _ ⟨_, _, _, rfl⟩ ⟨_, _, _, rfl⟩).mono ?_
  rintro e w3 ⟨ab, bb, rfl, hc1, hc2, hx3⟩
  have HAI3 := hid_mk (HAI1.out.ext hx3)
  have HAB := hid_mk (And.intro hc1 hc2)
  have hz3 : w.heap.size + 1 < w3.heap.size := HAI3.out.b2.lt
  clear hc1 hc2 hx3 HAI1
  go_wp2_with fail
  refine gen_act (fun T HT => ?_)
  refine (wpIn_wide (n := 5)).1 ?_
  refine wpIn_rangeFunc_ownH (F := Fence.wide) (n := 5) (encs := fun x : Ent × Ent => #[entV x.1, entV x.2]) rfl (by omega) (gf := 65) (lb := #[.pointer (some ⟨ab, 0, none⟩), .pointer (some ⟨bb, 0, none⟩)]) (by rw [HT.out]; rfl) trivial (enters_of Try.func65 (by kernel_rfl) rfl)
    (pairs_stops ab bb _ _ a b w3 HAB.out.1 HAB.out.2 (HS.out.1.ext (Ext.of HAI3.out.bl)) (HS.out.2.ext (Ext.of HAI3.out.bl))) belowK_t (belowK_b (by omega)) (Below.refl _ _) (fun _ => rfl)
    (fun pre X => AI w X ∧ Below w3.heap.size w3 X)
    (fun c pre X => c = .ret ∧ ∃ p ∈ pre, newer p.2 p.1 = true)
    (fun s X Y row h hg hr => ⟨AI.own (by omega) () X Y row h.1 hg hr, ownFrom_below (β := Unit) (Nat.le_refl _) (Nat.le_refl _) () X Y row h.2 hg hr⟩)
    (fun c s X Y row h hg hr => h)
    ⟨HAI3.out, Below.refl _ _⟩
    (fun x a' X => ∃ B1 B2, EntAt X B1 0 x.1 ∧ EntAt X B2 0 x.2 ∧ Hid (a' = { tmps := ((Array.foldl (fun t (x : Nat × Value) => t.setIfInBounds x.1 x.2) T (#[18, 19].zip #[entV x.1, entV x.2])).setIfInBounds 7 (.pointer (some ⟨B1, 0, none⟩))).setIfInBounds 8 (.pointer (some ⟨B2, 0, none⟩)), defers := [] }))
    (fun x a' _ X Y row hs hg hr => by
      obtain ⟨B1, B2, h1, h2, h3⟩ := hs
      exact ⟨B1, B2, entAt_own h1 hg (fun r e => (hr r e).2), entAt_own h2 hg (fun r e => (hr r e).2), h3⟩)
    ?assign ?body ?done ?stop
  case assign =>
    rintro lp pre x X K hB hK
    rw [fold2, HT.out]
    simp only [List.setIfInBounds_toArray, List.set_cons_succ, List.set_cons_zero]
    gi_wp2
    have hx : Ext X ((X.alloc (.cells #[.string x.1.key, .int .i64 x.1.ctr, .int .i64 x.1.node, .string x.1.val, .bool x.1.dead] 31)).alloc (.cells #[.string x.2.key, .int .i64 x.2.ctr, .int .i64 x.2.node, .string x.2.val, .bool x.2.dead] 31)) := by (repeat (first | exact Ext.refl _ | apply Ext.drew_left | apply Ext.drew | apply Ext.alloc))
    exact hK _ _ (keepsFrom_ext hx) (hx.below.mono hB.2.size) ⟨hB.1.ext hx, hB.2.trans (hx.below.mono hB.2.size)⟩ ⟨X.heap.size, X.heap.size + 1, ⟨by go_simp, by go_simp, by go_simp, by go_simp, by go_simp⟩, ⟨by go_simp, by go_simp, by go_simp, by go_simp, by go_simp⟩, hid_mk (by rw [fold2, HT.out]; rfl)⟩
  case body =>
    rintro lp pre x a' X hl hr ⟨hai, hb3⟩ ⟨B1, B2, ⟨p0, p1, p2, p3, p4⟩, ⟨q0, q1, q2, q3, q4⟩, ha⟩ hlt
    rw [ha.out, fold2, HT.out]
    simp only [List.setIfInBounds_toArray, List.set_cons_succ, List.set_cons_zero]
    clear hr ha
    have HSX := hid_mk (And.intro hai hb3)
    have pl := cell_lt p0
    have ql := cell_lt q0
    clear hai hb3
    obtain ⟨nw, hnw⟩ : ∃ nw, newer x.2 x.1 = nw := ⟨_, rfl⟩
    have HNW := hid_mk hnw
    clear hnw
    gi_wp2_with fail
    refine ⟨trivial, CallsIn.mono (calls_round (iNewer_any x.2 x.1 X)) ?_⟩
    rintro e X2 ⟨rfl, hx2⟩
    rw [HNW.out]
    have HX2 := hid_mk hx2
    have r1 := ((HSX.out.1.ext hx2).b1).cell
    have r2 := ((HSX.out.1.ext hx2).b2).cell
    have f1 := ((HSX.out.1.ext hx2).b1).frozen
    have f2 := ((HSX.out.1.ext hx2).b2).frozen
    have gl1 := cell_lt r1
    have gl2 := cell_lt r2
    clear hx2
    have hne : w.heap.size ≠ w.heap.size + 1 := by omega
    cases nw with
    | true =>
      gi_wp2
      exact ⟨((keepsFrom_ext HX2.out).trans ((KeepsOthers.setCell _ _ _).from _)).trans ((KeepsOthers.setCell _ _ _).from _), rfl, x, by simp, HNW.out⟩
    | false =>
      gi_wp2
      exact ⟨keepsFrom_ext HX2.out, HX2.out.below.mono HSX.out.2.size, HSX.out.1.ext HX2.out, HSX.out.2.trans (HX2.out.below.mono HSX.out.2.size)⟩
  case done =>
    rintro D zs X hD hS ⟨hai, hb3⟩ hK
    have r1 := hai.b1.cell
    have f1 := hai.b1.frozen
    have r2 := hai.b2.cell
    have f2 := hai.b2.frozen
    have gl1 := hai.b1.lt
    have gl2 := hai.b2.lt
    have hne : w.heap.size ≠ w.heap.size + 1 := by omega
    rw [HT.out]
    go_wp2
    have hb1' := (hai.b1.set (.bool true)).other (B' := w.heap.size + 1) (by omega) (.int .i64 0)
    have hb2' := (hai.b2.other (B' := w.heap.size) (by omega) (.bool true)).set (.int .i64 0)
    have hbl := (hai.bl.setCell (p := ⟨w.heap.size, 0, none⟩) (Nat.le_refl _) (.bool true)).setCell (p := ⟨w.heap.size + 1, 0, none⟩) (by show w.heap.size ≤ w.heap.size + 1; omega) (.int .i64 0)
    have hK' := ((KeepsOthers.setCell (X.setCell ⟨w.heap.size, 0, none⟩ (.bool true)) ⟨w.heap.size + 1, 0, none⟩ (.int .i64 0)).same D _ ((KeepsOthers.setCell X ⟨w.heap.size, 0, none⟩ (.bool true)).same D _ hK rfl) rfl)
    have hc1 := cell_kept hb1'.cell (grownBy_putObj' _ D (.deferred none)) (fun r e => by cases e; exact ⟨_, hK', rfl⟩)
    have hc2 := cell_kept hb2'.cell (grownBy_putObj' _ D (.deferred none)) (fun r e => by cases e; exact ⟨_, hK', rfl⟩)
    show LeavesInM Fence.wide 5 Try.prog Try.f19 _ _ _ _ _
    refine ⟨by simp, .inl ⟨_, _, rfl, run_takeDeferred hK', ?_⟩⟩
    refine ⟨.tuple #[.bool true, .int .i64 0], ?_, rfl, ?_⟩
    · unfold results
      rw [Try.results19]
      simp [go_sem, hc1, hc2]
    · exact Ext.of (hbl.trans (belowK_b (w := w) (Nat.le_refl _) _ D _ _ (by omega) hK' rfl rfl))
  case stop =>
    rintro D c pre X hD hS ⟨rfl, p, hp, hnw⟩ hK
    have := HUP.out p ((show pre <+: prs a b from hS).subset hp)
    rw [this] at hnw
    cases hnw
end Go.Proofs.Ytiimoaplhhnklaa
