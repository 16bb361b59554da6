/- Ghosts: Sees. -/
import Derived.Test.YtiimoaplhhnklaaHD
import Derived.Test.YtiimoaplhhnklaaInM
namespace Go.Proofs.Ytiimoaplhhnklaa
open Go.RowKit Go.Shelf
set_option maxHeartbeats 4000000
set_option maxRecDepth 100000
set_option linter.unusedSimpArgs false
set_option linter.unusedVariables false
attribute [local go_sem] Oper.semAt_some
attribute [local go_sem ↓] eql_entE neq_entE

def badP (A : List Ent) (p : Ent × Ent) : Option (ByteArray × Int) := if newer p.1 p.2 then some (p.1.key, 191) else if findN (nk p.2) A = some p.2 then none else some (p.2.key, 192)
def seesP (A : List Ent) (ps : List (Ent × Ent)) : Option (ByteArray × Int) := ps.findSome? (badP A)
def seesO (n : Int) (l : List Ent) (A : List Ent) (ls : Nat → List Ent) : Option (ByteArray × Int) := if isNd n = false then some (⟨#[]⟩, 1) else if mChk l ≠ 0 then some (⟨#[]⟩, mChk l) else seesP A (prs (ls n.toNat) l)
def seesR (n : Int) (l : List Ent) (A : List Ent) (ls : Nat → List Ent) : ByteArray × Int := (seesO n l A ls).getD (⟨#[]⟩, 0)
def upd {α : Type} (f : Nat → α) (k : Nat) (v : α) : Nat → α := fun i => if i = k then v else f i
def seesLs (n : Int) (l : List Ent) (A : List Ent) (ls : Nat → List Ent) : Nat → List Ent := if seesO n l A ls = none then upd ls n.toNat l else ls
theorem GhAt.put {w : World} {gb mb : Nat} {A : List Ent} {sv : Nat → Value} {ls : Nat → List Ent} (h : GhAt w gb mb A sv ls) {k : Nat} (hk : k < 8) {v : Value} {l : List Ent} (hs : EntSl w v l) (ha : EAway [gb, mb] v) : GhAt (w.setCell ⟨gb, 1 + k, none⟩ v) gb mb A (upd sv k v) (upd ls k l) := by
  have hx : Xl [gb] w (w.setCell ⟨gb, 1 + k, none⟩ v) := (Xl.refl w).set (by simp)
  obtain ⟨M, ⟨es, clock, hm, he⟩, hM⟩ := h.map
  refine ⟨?_, ⟨M, ⟨es, clock, (hx.block mb h.lt.2 (by simpa using h.ne.symm)).trans hm, he⟩, hM⟩, fun i hi => ?_, fun i hi => ?_, h.ne⟩
  · rw [heap_setCell_same w gb (1 + k) _ _ v h.blk]
    match k, hk with
    | 0, _ | 1, _ | 2, _ | 3, _ | 4, _ | 5, _ | 6, _ | 7, _ => rfl
  · unfold upd
    split
    · exact hs.xl hx (ha.mono (by simp))
    · exact (h.sl i hi).xl hx ((h.aw i hi).mono (by simp))
  · unfold upd
    split
    · exact ha
    · exact h.aw i hi
/-- Within Sees. -/
structure SI (w : World) (gb : Nat) (r : ByteArray × Int) (X : World) : Prop where
  bl : Below w.heap.size w X
  b0 : Boxed X w.heap.size 24 (.pointer (some ⟨gb, 0, none⟩))
  b1 : Boxed X (w.heap.size + 1) 9 (.string r.1)
  b2 : Boxed X (w.heap.size + 1 + 1) 40 (.int .i64 r.2)
theorem SI.own {w : World} {gb : Nat} {r : ByteArray × Int} {B : Nat} (hB : w.heap.size ≤ B) : OwnFrom (β := Unit) B (fun _ X => SI w gb r X) := fun s X Y row h hg hr => by
  have hr' : ∀ r, row = some r → ∃ o : Obj, X.heap[r]? = some o ∧ o.isCells = false := fun r e => (hr r e).2
  exact ⟨ownFrom_below (β := Unit) (Nat.le_refl _) hB s X Y row h.bl hg hr, boxed_own (β := Unit) _ _ (fun _ => _) s X Y row h.b0 hg hr', boxed_own (β := Unit) _ _ (fun _ => _) s X Y row h.b1 hg hr', boxed_own (β := Unit) _ _ (fun _ => _) s X Y row h.b2 hg hr'⟩
theorem SI.ext {w : World} {gb : Nat} {r : ByteArray × Int} {X Y : World} (h : SI w gb r X) (hx : Ext X Y) : SI w gb r Y :=
  ⟨h.bl.trans (hx.below.mono h.bl.size), (hx.below.block _ h.b0.lt).trans h.b0, (hx.below.block _ h.b1.lt).trans h.b1, (hx.below.block _ h.b2.lt).trans h.b2⟩
theorem SI.res {w : World} {gb : Nat} {r : ByteArray × Int} {X : World} (h : SI w gb r X) (s : ByteArray) (z : Int) : SI w gb (s, z) ((X.setCell ⟨w.heap.size + 1, 0, none⟩ (.string s)).setCell ⟨w.heap.size + 1 + 1, 0, none⟩ (.int .i64 z)) :=
  ⟨(h.bl.setCell (p := ⟨w.heap.size + 1, 0, none⟩) (by show w.heap.size ≤ w.heap.size + 1; omega) _).setCell (p := ⟨w.heap.size + 1 + 1, 0, none⟩) (by show w.heap.size ≤ w.heap.size + 1 + 1; omega) _,
   (h.b0.other (by omega) _).other (by omega) _, (h.b1.set _).other (by omega) _, (h.b2.other (by omega) _).set _⟩
theorem gen_contH {K : Act → World → Prop} {Q : Exit → Act → World → Prop} {a : Act} {w : World} (R : World → Prop) (h0 : R w) (h : ∀ W, R W → Exit.then K Q .normal a W) : Exit.then K Q .normal a w := h w h0
theorem xl_cat {L : List Nat} {a b c : World} (h : Xl L a b) (k : Xl L b c) : Xl L a c := Xl.trans _ _ _ h k
theorem xl_cat' {L L' : List Nat} {a b c : World} (h : Xl L a b) (k : Xl L' b c) (hL : ∀ x ∈ L', a.heap.size ≤ x) : Xl L a c :=
  ⟨k.os.trans h.os, k.tape.trans h.tape, k.output.trans h.output, Nat.le_trans h.size k.size, fun x hx hn => (k.block x (Nat.lt_of_lt_of_le hx h.size) (fun hm => by have := hL x hm; omega)).trans (h.block x hx hn)⟩
theorem xl_put {L : List Nat} (W : World) (D : Nat) (o : Obj) (h : D ∈ L) : Xl L W (W.putObj D o) :=
  have g := grownBy_putObj' W D o
  ⟨g.os, g.tape, g.output, g.size, fun k hk hn => g.block k hk (fun e => by cases e; exact hn h)⟩
theorem entAt_own {X Y : World} {row : Option Nat} {B o : Nat} {e : Ent} (h : EntAt X B o e) (hg : X.grownBy Y row) (hr : ∀ r, row = some r → ∃ o : Obj, X.heap[r]? = some o ∧ o.isCells = false) : EntAt Y B o e :=
  ⟨cell_kept h.c0 hg hr, cell_kept h.c1 hg hr, cell_kept h.c2 hg hr, cell_kept h.c3 hg hr, cell_kept h.c4 hg hr⟩
theorem gsees_any {w : World} {gb mb : Nat} {A : List Ent} {sv : Nat → Value} {ls : Nat → List Ent} (h : GhAt w gb mb A sv ls) (hok : ∀ i, i < 8 → mChk (ls i) = 0 ∧ (ls i).length ≤ 1073741824) (n : Int) (lv : Value) (l : List Ent) (hs : EntSl w lv l) (hl : l.length ≤ 1073741824) :
    Calls Try.prog 18 #[.pointer (some ⟨gb, 0, none⟩), .int .i64 n, lv] w fun e w' => e = .returned (.tuple #[.string (seesR n l A ls).1, .int .i64 (seesR n l A ls).2]) ∧ GPost w gb mb sv A (seesLs n l A ls) w' := by
  have H := hid_mk h
  have HOK := hid_mk hok
  have HS := hid_mk hs
  have hgl := h.lt.1
  obtain ⟨la, lc, rfl, -⟩ := hs
  clear h hok
  obtain ⟨b, hb⟩ : ∃ b, isNd n = b := ⟨_, rfl⟩
  have HBE := hid_mk hb
  cases b with
  | false =>
    rw [seesR, seesLs, seesO, if_pos HBE.out]
    clear hb
    go_enter Try.func18, Try.ntmps18
    go_wp2_with fail
    refine (gnode_any _ _).mono ?_
    rintro e w1 ⟨rfl, rfl⟩
    rw [show decide (0 ≤ n ∧ n < 8) = false from HBE.out]
    go_wp2
    refine bodyPost_ret (v := .tuple #[.string ⟨#[]⟩, .int .i64 1]) (by unfold results; rw [Try.results18]; go_simp; first | done | rfl) rfl ⟨rfl, ?_⟩
    first
      | exact gpost_ext H.out (by (repeat (first | exact Ext.refl _ | apply Ext.drew_left | apply Ext.drew | apply Ext.alloc)))
      | (rw [if_neg (by simp)]; exact gpost_ext H.out (by (repeat (first | exact Ext.refl _ | apply Ext.drew_left | apply Ext.drew | apply Ext.alloc))))
  | true =>
    have hnd := isNd_at hb
    clear hb
    obtain ⟨k, hk, rfl⟩ := hnd
    obtain ⟨z, hz⟩ : ∃ z, mChk l = z := ⟨_, rfl⟩
    have HZ := hid_mk hz
    clear hz
    by_cases hz0 : z = 0
    · subst hz0
      obtain ⟨so, hso⟩ : ∃ so, seesP A (prs (ls k) l) = so := ⟨_, rfl⟩
      have HSO := hid_mk hso
      have HLK := hid_mk (HOK.out k hk)
      rw [seesR, seesLs, seesO, if_neg (by rw [HBE.out]; simp), if_neg (by rw [HZ.out]; simp), Int.toNat_natCast, hso]
      clear hso
      obtain ⟨c0, -⟩ := H.out.cs hk
      have hk8 : (k : Int) < 8 := by omega
      have hk0 : (0 : Int) ≤ (k : Int) := by omega
      obtain ⟨a9, c9, e9, -⟩ := H.out.sl k hk
      rw [e9] at c0
      have HE9 := hid_mk e9
      clear e9
      refine (callsIn_wide (n := 5)).1 ?_
      refine callsIn_of_wp_marks Try.func18 rfl trivial (wpIn_wide.2 (wp_mono ?_ (np_of (Q := _)))) rfl
      simp only [Try.ntmps18, List.size_toArray, List.length_cons, List.length_nil, Nat.reduceAdd, Nat.reduceSub, Array.replicate_succ, Array.replicate_zero, List.push_toArray, List.append_toArray, List.nil_append, List.cons_append]
      go_wp2_with fail
      refine (gnode_any _ _).mono ?_
      rintro e w1 ⟨rfl, rfl⟩
      rw [show decide ((0 : Int) ≤ (k : Int) ∧ (k : Int) < 8) = true from HBE.out]
      have hx0 : Ext w (((w.alloc (.cells #[.pointer (some ⟨gb, 0, none⟩)] 24)).alloc (.cells #[.string ⟨#[]⟩] 9)).alloc (.cells #[.int .i64 0] 40)) := by (repeat (first | exact Ext.refl _ | apply Ext.drew_left | apply Ext.drew | apply Ext.alloc))
      have b0 := Boxed.alloc (Boxed.alloc (Boxed.new w 24 (.pointer (some ⟨gb, 0, none⟩))) (.cells #[.string ⟨#[]⟩] 9)) (.cells #[.int .i64 0] 40)
      have b1 := Boxed.alloc (Boxed.new (w.alloc (.cells #[.pointer (some ⟨gb, 0, none⟩)] 24)) 9 (.string ⟨#[]⟩)) (.cells #[.int .i64 0] 40)
      have b2 := Boxed.new ((w.alloc (.cells #[.pointer (some ⟨gb, 0, none⟩)] 24)).alloc (.cells #[.string ⟨#[]⟩] 9)) 40 (.int .i64 0)
      simp only [World.size_alloc] at b1 b2
      have HSI := hid_mk (show SI w gb (⟨#[]⟩, 0) _ from ⟨hx0.below, b0, b1, b2⟩)
      clear hx0 b0 b1 b2
      go_wp2_with fail
      refine (mCheck_any l _ _ (HS.out.ext (Ext.of HSI.out.bl))).mono ?_
      rintro e w2 ⟨rfl, hx2⟩
      have HSI2 := hid_mk (HSI.out.ext hx2)
      rw [HZ.out]
      have c2 := cell_ext (Ext.of HSI2.out.bl) c0
      have g2 := HSI2.out.b0.cell
      have hcl2 := cell_lt c2
      have hgl2 := cell_lt g2
      clear hx2 HSI c0
      go_wp2_with fail
      refine (mBoth_any (ls k) l _ _ _ (by rw [← HE9.out]; exact (H.out.sl k hk).ext (Ext.of HSI2.out.bl)) (HS.out.ext (Ext.of HSI2.out.bl)) HLK.out.1 HZ.out HLK.out.2 hl).mono ?_
      rintro e w3 ⟨ab, bb, av, bv, rfl, hab, hbb, hsa, hsb, hx3⟩
      have HSI3 := hid_mk (HSI2.out.ext hx3)
      have HAB := hid_mk (And.intro hab (And.intro hbb (And.intro hsa hsb)))
      have hz3 : w.heap.size + 1 + 1 < w3.heap.size := HSI3.out.b2.lt
      clear hx3 hab hbb hsa hsb c2 g2 hcl2 hgl2 HSI2
      go_wp2_with fail
      refine gen_act (fun T HT => ?_)
      refine (wpIn_wide (n := 5)).1 ?_
      refine wpIn_rangeFunc_ownH (F := Fence.wide) (n := 5) (encs := fun x : Ent × Ent => #[entV x.1, entV x.2]) rfl (by omega) (gf := 65) (lb := #[.pointer (some ⟨ab, 0, none⟩), .pointer (some ⟨bb, 0, none⟩)]) (by rw [HT.out]; rfl) trivial (enters_of Try.func65 (by kernel_rfl) rfl)
        (pairs_stops ab bb av bv (ls k) l w3 HAB.out.1 HAB.out.2.1 HAB.out.2.2.1 HAB.out.2.2.2) belowK_t (belowK_b (by omega)) (Below.refl _ _) (fun _ => rfl)
        (fun pre X => SI w gb (⟨#[]⟩, 0) X ∧ Below w3.heap.size w3 X ∧ seesP A pre = none)
        (fun c pre X => c = .ret ∧ ∃ r, SI w gb r X ∧ seesP A pre = some r)
        (fun s X Y row h hg hr => ⟨SI.own (by omega) () X Y row h.1 hg hr, ownFrom_below (β := Unit) (Nat.le_refl _) (Nat.le_refl _) () X Y row h.2.1 hg hr, h.2.2⟩)
        (fun c s X Y row h hg hr => by
          obtain ⟨h1, r, h2, h3⟩ := h
          exact ⟨h1, r, SI.own (by omega) () X Y row h2 hg hr, h3⟩)
        ⟨HSI3.out, Below.refl _ _, rfl⟩
        (fun x a' X => ∃ B1 B2, EntAt X B1 0 x.1 ∧ EntAt X B2 0 x.2 ∧ Hid (a' = { tmps := ((Array.foldl (fun t (x : Nat × Value) => t.setIfInBounds x.1 x.2) T (#[27, 28].zip #[entV x.1, entV x.2])).setIfInBounds 9 (.pointer (some ⟨B1, 0, none⟩))).setIfInBounds 10 (.pointer (some ⟨B2, 0, none⟩)), defers := [] }))
        (fun x a' _ X Y row hs hg hr => by
          obtain ⟨B1, B2, h1, h2, h3⟩ := hs
          exact ⟨B1, B2, entAt_own h1 hg (fun r e => (hr r e).2), entAt_own h2 hg (fun r e => (hr r e).2), h3⟩)
        ?assign ?body ?done ?stop
      case assign =>
        rintro lp pre x X K hB hK
        rw [fold2, HT.out]
        simp only [List.setIfInBounds_toArray, List.set_cons_succ, List.set_cons_zero]
        gi_wp2
        have hx : Ext X ((X.alloc (.cells #[.string x.1.key, .int .i64 x.1.ctr, .int .i64 x.1.node, .string x.1.val, .bool x.1.dead] 31)).alloc (.cells #[.string x.2.key, .int .i64 x.2.ctr, .int .i64 x.2.node, .string x.2.val, .bool x.2.dead] 31)) := by (repeat (first | exact Ext.refl _ | apply Ext.drew_left | apply Ext.drew | apply Ext.alloc))
        exact hK _ _ (keepsFrom_ext hx) (hx.below.mono hB.2.1.size) ⟨hB.1.ext hx, hB.2.1.trans (hx.below.mono hB.2.1.size), hB.2.2⟩ ⟨X.heap.size, X.heap.size + 1, ⟨by go_simp, by go_simp, by go_simp, by go_simp, by go_simp⟩, ⟨by go_simp, by go_simp, by go_simp, by go_simp, by go_simp⟩, hid_mk (by rw [fold2, HT.out]; rfl)⟩
      case body =>
        rintro lp pre x a' X hl hr ⟨hsi, hb3, hp⟩ ⟨B1, B2, ⟨p0, p1, p2, p3, p4⟩, ⟨q0, q1, q2, q3, q4⟩, ha⟩ hlt
        rw [ha.out, fold2, HT.out]
        simp only [List.setIfInBounds_toArray, List.set_cons_succ, List.set_cons_zero]
        clear hr ha
        have HSP := hid_mk (show seesP A (pre ++ [x]) = badP A x by
          rw [seesP, List.findSome?_append, show pre.findSome? (badP A) = none from hp]
          cases hbx : badP A x <;> simp [hbx])
        have HSX := hid_mk (And.intro hsi hb3)
        have g0 := hsi.b0.cell
        have r1 := hsi.b1.cell
        have f1 := hsi.b1.frozen
        have r2 := hsi.b2.cell
        have f2 := hsi.b2.frozen
        have gl0 := cell_lt g0
        have gl1 := cell_lt r1
        have gl2 := cell_lt r2
        have pl := cell_lt p0
        have ql := cell_lt q0
        clear hsi hb3 hp
        obtain ⟨nw, hnw⟩ : ∃ nw, newer x.1 x.2 = nw := ⟨_, rfl⟩
        have HNW := hid_mk hnw
        clear hnw
        gi_wp2_with fail
        refine ⟨trivial, CallsIn.mono (calls_round (iNewer_any x.1 x.2 X)) ?_⟩
        rintro e X2 ⟨rfl, hx2⟩
        rw [HNW.out]
        have HX2 := hid_mk hx2
        replace g0 := cell_ext hx2 g0
        replace r1 := cell_ext hx2 r1
        replace r2 := cell_ext hx2 r2
        replace f1 := ((HSX.out.1.ext hx2).b1).frozen
        replace f2 := ((HSX.out.1.ext hx2).b2).frozen
        replace p0 := cell_ext hx2 p0
        replace q0 := cell_ext hx2 q0
        replace q1 := cell_ext hx2 q1
        replace q2 := cell_ext hx2 q2
        replace q3 := cell_ext hx2 q3
        replace q4 := cell_ext hx2 q4
        replace gl0 := cell_lt g0
        replace gl1 := cell_lt r1
        replace gl2 := cell_lt r2
        replace pl := cell_lt p0
        replace ql := cell_lt q0
        clear hx2 p1 p2 p3 p4
        have hne : w.heap.size + 1 ≠ w.heap.size + 1 + 1 := by omega
        cases nw with
        | true =>
          gi_wp2
          exact ⟨((keepsFrom_ext HX2.out).trans ((KeepsOthers.setCell _ _ _).from _)).trans ((KeepsOthers.setCell _ _ _).from _), rfl, _, (HSX.out.1.ext HX2.out).res x.1.key 191, by rw [HSP.out, badP, if_pos HNW.out]⟩
        | false =>
          gi_wp2_with fail
          refine ⟨trivial, CallsIn.mono (calls_round (written_any ((H.out.ext (Ext.of HSX.out.1.bl)).ext HX2.out) x.2)) ?_⟩
          rintro e X4 ⟨rfl, hx4⟩
          obtain ⟨wr, hwr⟩ : ∃ wr, decide (findN (nk x.2) A = some x.2) = wr := ⟨_, rfl⟩
          have HWR := hid_mk hwr
          rw [hwr]
          have HX4 := hid_mk (Ext.trans _ _ _ HX2.out hx4)
          replace q0 := cell_ext hx4 q0
          replace r1 := cell_ext hx4 r1
          replace r2 := cell_ext hx4 r2
          replace f1 := ((HSX.out.1.ext HX4.out).b1).frozen
          replace f2 := ((HSX.out.1.ext HX4.out).b2).frozen
          clear hx4 hwr g0 p0 q1 q2 q3 q4 gl0 gl1 gl2 pl ql
          cases wr with
          | true =>
            gi_wp2
            exact ⟨keepsFrom_ext HX4.out, HX4.out.below.mono HSX.out.2.size, HSX.out.1.ext HX4.out, HSX.out.2.trans (HX4.out.below.mono HSX.out.2.size), by rw [HSP.out, badP, if_neg (by rw [HNW.out]; simp), if_pos (of_decide_eq_true HWR.out)]⟩
          | false =>
            gi_wp2
            exact ⟨((keepsFrom_ext HX4.out).trans ((KeepsOthers.setCell _ _ _).from _)).trans ((KeepsOthers.setCell _ _ _).from _), rfl, _, (HSX.out.1.ext HX4.out).res x.2.key 192, by rw [HSP.out, badP, if_neg (by rw [HNW.out]; simp), if_neg (of_decide_eq_false HWR.out)]⟩
      case done =>
        rintro D zs X hD hS ⟨hsi, hb3, hp⟩ hK
        obtain rfl : zs = prs (ls k) l := hS
        obtain rfl : so = none := HSO.out.symm.trans hp
        have HSX := hid_mk (And.intro hsi hb3)
        have HHK := hid_mk hK
        have g0 := hsi.b0.cell
        have gl0 := cell_lt g0
        have HGX := hid_mk (H.out.ext (Ext.of hsi.bl))
        clear hsi hb3 hK hp
        rw [HT.out]
        go_wp2_with fail
        refine wp_region_held_planC Ext (fun i => i != 7) (fun i => [1, 2, 4, 5, 6].contains i) (.quiet 0 (.quiet 1 (.quiet 2 (.quiet 4 (.quiet 5 (.alt 3 (.quiet 6 (.alt 7 .done .stop)) .stop)))))) (by kernel_rfl) (by kernel_rfl) Ext.refl Ext.trans (by intro c a w d v h; cases d <;> exact h) (fun ops HO => ?_)
        refine planC_read _ (hi_of HO rfl) rfl rfl (fun w' hE => by (repeat (with_reducible replace hE := Ext.unD hE)); have hcE := hE.hc; clear hE; go_simp; rfl) ?_
        simp only [Act.put, List.setIfInBounds_toArray, List.set_cons_succ, List.set_cons_zero]
        refine planC_calm _ (hi_of HO rfl) rfl (fun w' => by go_simp; rfl) ?_
        simp only [Act.put, List.setIfInBounds_toArray, List.set_cons_succ, List.set_cons_zero]
        refine planC_calm _ (hi_of HO rfl) rfl (fun w' => by go_simp; rfl) ?_
        simp only [Act.put, List.setIfInBounds_toArray, List.set_cons_succ, List.set_cons_zero]
        refine planC_calm _ (hi_of HO rfl) rfl (fun w' => by go_simp; rfl) ?_
        simp only [Act.put, List.setIfInBounds_toArray, List.set_cons_succ, List.set_cons_zero]
        refine planC_calm _ (hi_of HO rfl) rfl (fun w' => by go_simp; rfl) ?_
        simp only [Act.put, List.setIfInBounds_toArray, List.set_cons_succ, List.set_cons_zero]
        refine planC_call1 en_cloneEnt (hi_of HO rfl) rfl rfl (by go_simp; rfl) (by exact cloneEnt_any l _ _ (HS.out.ext (Ext.drew (Ext.of HSX.out.1.bl))) hl) ?_
        rintro e w3c ⟨a3, c3, rfl, h3, hx3, -, hc3⟩
        have HN3 := hid_mk (clone_new hl h3 hc3)
        have HX3 := hid_mk (Ext.trans _ _ _ ((Ext.refl X).drew) hx3)
        refine ⟨_, rfl, (fun _ => hx3), ?_⟩
        simp only [Act.put, List.setIfInBounds_toArray, List.set_cons_succ, List.set_cons_zero]
        refine planC_calm _ (hi_of HO rfl) rfl (fun w' => by go_simp; rfl) ?_
        simp only [Act.put, List.setIfInBounds_toArray, List.set_cons_succ, List.set_cons_zero]
        obtain ⟨k0, k1⟩ := (HGX.out.ext HX3.out).cs hk
        have kl := cell_lt k0
        refine planC_loud1 (hi_of HO rfl) rfl ?_
        go_simp
        clear k0 k1 kl
        refine planC_done ?fin101
        have hlt := H.out.lt
        have hXs := HSX.out.1.bl.size
        have hX3 := HX3.out.below.size
        have HGP := hid_mk ((HGX.out.ext HX3.out).put hk HN3.out.1 (HN3.out.away (by simp; omega)))
        have HSY := hid_mk (HSX.out.1.ext HX3.out)
        have HK3 := hid_mk ((HX3.out.below.block D (Array.getElem?_eq_some_iff.1 HHK.out).1).trans HHK.out)
        have hXd : X.drew.heap.size = X.heap.size := rfl
        have hDX := (Array.getElem?_eq_some_iff.1 HHK.out).1
        have HXG := hid_mk (show Xl [gb] w3c (w3c.setCell ⟨gb, 1 + k, none⟩ (.slice a3 l.length c3)) from (Xl.refl _).set (by simp))
        refine gen_contH (fun Wz => GhAt Wz gb mb A (upd sv k (.slice a3 l.length c3)) (upd ls k l) ∧ Xl [gb, mb] w Wz ∧ Boxed Wz (w.heap.size + 1) 9 (.string ⟨#[]⟩) ∧ Boxed Wz (w.heap.size + 1 + 1) 40 (.int .i64 0) ∧ Wz.heap[D]? = some (.deferred (some []))) ⟨HGP.out, xl_cat (Xl.of (Ext.trans _ _ _ (Ext.of HSX.out.1.bl) HX3.out)) (HXG.out.mono' (by simp)), (HXG.out.block _ HSY.out.b1.lt (by simp; omega)).trans HSY.out.b1, (HXG.out.block _ HSY.out.b2.lt (by simp; omega)).trans HSY.out.b2, (HXG.out.block D (Array.getElem?_eq_some_iff.1 HK3.out).1 (by simp; omega)).trans HK3.out⟩ ?_
        rintro Wz ⟨hgz, hxz, hb1, hb2, hDz⟩
        have r1 := hb1.cell
        have f1 := hb1.frozen
        have r2 := hb2.cell
        have f2 := hb2.frozen
        have rl1 := hb1.lt
        have rl2 := hb2.lt
        have hne : w.heap.size + 1 ≠ w.heap.size + 1 + 1 := by omega
        go_wp2
        have hb1' := (hb1.set (.string ⟨#[]⟩)).other (B' := w.heap.size + 1 + 1) (by omega) (.int .i64 0)
        have hb2' := (hb2.other (B' := w.heap.size + 1) (by omega) (.string ⟨#[]⟩)).set (.int .i64 0)
        have hK' := ((KeepsOthers.setCell (Wz.setCell ⟨w.heap.size + 1, 0, none⟩ (.string ⟨#[]⟩)) ⟨w.heap.size + 1 + 1, 0, none⟩ (.int .i64 0)).same D _ ((KeepsOthers.setCell Wz ⟨w.heap.size + 1, 0, none⟩ (.string ⟨#[]⟩)).same D _ hDz rfl) rfl)
        have hc1 := cell_kept hb1'.cell (grownBy_putObj' _ D (.deferred none)) (fun r e => by cases e; exact ⟨_, hK', rfl⟩)
        have hc2 := cell_kept hb2'.cell (grownBy_putObj' _ D (.deferred none)) (fun r e => by cases e; exact ⟨_, hK', rfl⟩)
        show LeavesInM Fence.wide 5 Try.prog Try.f18 _ _ _ _ _
        refine ⟨by simp, .inl ⟨_, _, rfl, run_takeDeferred hK', ?_⟩⟩
        refine ⟨.tuple #[.string ⟨#[]⟩, .int .i64 0], ?_, rfl, ?_⟩
        · unfold results
          rw [Try.results18]
          simp [go_sem, hc1, hc2]
        · have hxf : Xl [w.heap.size + 1, w.heap.size + 1 + 1, D] Wz (((Wz.setCell ⟨w.heap.size + 1, 0, none⟩ (.string ⟨#[]⟩)).setCell ⟨w.heap.size + 1 + 1, 0, none⟩ (.int .i64 0)).putObj D (.deferred none)) :=
            Xl.trans _ _ _ ((((Xl.refl Wz).set (by simp)).set (by simp))) (xl_put _ _ _ (by simp))
          have hold : ∀ i, i < 8 → i ≠ k → EAway [w.heap.size + 1, w.heap.size + 1 + 1, D] (sv i) := fun i hi _ => EAway.of_lt (H.out.sl i hi) (by simp; omega)
          have hnew : EAway [w.heap.size + 1, w.heap.size + 1 + 1, D] (.slice a3 l.length c3) := HN3.out.away (by simp; omega)
          have hfin := hgz.away hxf (by simp; omega) (by simp; omega) (fun i hi => by
            unfold upd
            split
            · exact hnew
            · exact hold i hi (by assumption))
          refine ⟨upd sv k (.slice a3 l.length c3), ?_, xl_cat' hxz hxf (by simp; omega), fun i hi => ?_⟩
          · first | exact hfin | (rw [if_pos rfl]; exact hfin)
          · unfold upd
            split
            · right
              intro b o n c e hn
              have := HN3.out.2 b o n c e hn
              omega
            · exact .inl rfl
      case stop =>
        rintro D c pre X hD hS ⟨rfl, r, hsi, hp⟩ hK
        obtain rfl : so = some r := by
          rw [← HSO.out]
          obtain ⟨t, ht⟩ := (show pre <+: prs (ls k) l from hS)
          rw [← ht, seesP, List.findSome?_append, show pre.findSome? (badP A) = some r from hp]
          rfl
        rw [HT.out]
        gi_wp2
        have hc1 := cell_kept hsi.b1.cell (grownBy_putObj' _ D (.deferred none)) (fun r e => by cases e; exact ⟨_, hK, rfl⟩)
        have hc2 := cell_kept hsi.b2.cell (grownBy_putObj' _ D (.deferred none)) (fun r e => by cases e; exact ⟨_, hK, rfl⟩)
        show LeavesInM Fence.wide 5 Try.prog Try.f18 _ _ _ _ _
        refine ⟨by simp, .inl ⟨_, _, rfl, run_takeDeferred hK, ?_⟩⟩
        refine ⟨.tuple #[.string r.1, .int .i64 r.2], ?_, rfl, ?_⟩
        · unfold results
          rw [Try.results18]
          simp [go_sem, hc1, hc2]
        · have hz3' := hz3
          first
            | exact gpost_ext H.out (Ext.of (hsi.bl.trans (belowK_b (w := w) (Nat.le_refl _) _ D _ _ (by omega) hK rfl rfl)))
            | (rw [if_neg (by simp)]; exact gpost_ext H.out (Ext.of (hsi.bl.trans (belowK_b (w := w) (Nat.le_refl _) _ D _ _ (by omega) hK rfl rfl))))
    · rw [seesR, seesLs, seesO, if_neg (by rw [HBE.out]; simp), if_pos (by rw [HZ.out]; exact hz0), HZ.out]
      go_enter Try.func18, Try.ntmps18
      go_wp2_with fail
      refine (gnode_any _ _).mono ?_
      rintro e w1 ⟨rfl, rfl⟩
      rw [show decide ((0 : Int) ≤ (k : Int) ∧ (k : Int) < 8) = true from HBE.out]
      have hx0 : Ext w (((w.alloc (.cells #[.pointer (some ⟨gb, 0, none⟩)] 24)).alloc (.cells #[.string ⟨#[]⟩] 9)).alloc (.cells #[.int .i64 0] 40)) := by (repeat (first | exact Ext.refl _ | apply Ext.drew_left | apply Ext.drew | apply Ext.alloc))
      have b0 := Boxed.alloc (Boxed.alloc (Boxed.new w 24 (.pointer (some ⟨gb, 0, none⟩))) (.cells #[.string ⟨#[]⟩] 9)) (.cells #[.int .i64 0] 40)
      have b1 := Boxed.alloc (Boxed.new (w.alloc (.cells #[.pointer (some ⟨gb, 0, none⟩)] 24)) 9 (.string ⟨#[]⟩)) (.cells #[.int .i64 0] 40)
      have b2 := Boxed.new ((w.alloc (.cells #[.pointer (some ⟨gb, 0, none⟩)] 24)).alloc (.cells #[.string ⟨#[]⟩] 9)) 40 (.int .i64 0)
      simp only [World.size_alloc] at b1 b2
      have HSI := hid_mk (show SI w gb (⟨#[]⟩, 0) _ from ⟨hx0.below, b0, b1, b2⟩)
      clear hx0 b0 b1 b2
      go_wp2_with fail
      refine (mCheck_any l _ _ (HS.out.ext (Ext.of HSI.out.bl))).mono ?_
      rintro e w2 ⟨rfl, hx2⟩
      have HSI2 := hid_mk (HSI.out.ext hx2)
      rw [HZ.out]
      have d1 := HSI2.out.b1.cell
      have f1 := HSI2.out.b1.frozen
      have d2 := HSI2.out.b2.cell
      have f2 := HSI2.out.b2.frozen
      clear hx2 HSI
      go_wp2
      have HF := hid_mk (HSI2.out.res ⟨#[]⟩ z)
      have r1 := HF.out.b1.cell
      have r2 := HF.out.b2.cell
      refine bodyPost_ret (v := .tuple #[.string ⟨#[]⟩, .int .i64 z]) (by unfold results; rw [Try.results18]; go_simp; first | done | rfl) rfl ⟨rfl, ?_⟩
      first
        | exact gpost_ext H.out (Ext.of HF.out.bl)
        | (rw [if_neg (by simp)]; exact gpost_ext H.out (Ext.of HF.out.bl))
end Go.Proofs.Ytiimoaplhhnklaa
