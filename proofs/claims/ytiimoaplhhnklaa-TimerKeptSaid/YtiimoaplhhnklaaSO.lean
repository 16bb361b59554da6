/- Timers: goes says true of what the program's Due and the document's Due give. -/
import Derived.Test.YtiimoaplhhnklaaSN
import Derived.Test.YtiimoaplhhnklaaReg4
namespace Go.Proofs.Ytiimoaplhhnklaa
open Go.RowKit Go.Shelf
set_option maxHeartbeats 4000000
set_option maxRecDepth 100000
set_option linter.unusedSimpArgs false
set_option linter.unusedVariables false
attribute [-go_sem] Builtin.append_
attribute [local go_sem] Oper.semAt_some
attribute [local go_sem ↓] neq_nm eql_nm

theorem eql_seq (w : World) (g : Fn) (x : Array Value) : (binOp .eql 73 (.func g #[] x) .nilFunc).run Try.prog w = .ok (.bool false) w := by kernel_rfl
attribute [local go_sem ↓] eql_seq
theorem pre_snoc {l pre : List Al} {x : Al} (h : pre <+: l) (hlt : pre.length < l.length) : pre ++ [x] <+: l ↔ x = l[pre.length] := by
  obtain ⟨m, rfl⟩ := h
  rw [List.getElem_append_right (Nat.le_refl _)]
  simp only [Nat.sub_self]
  match m, hlt with
  | [], hlt => simp at hlt
  | z :: m, _ =>
    rw [List.prefix_append_right_inj]
    simp
structure GI (W : World) (wv : Value) (stop : Int) (r : Bool) (k : Nat) (X : World) : Prop where
  bl : Below W.heap.size W X
  b0 : Boxed X W.heap.size 75 wv
  b1 : Boxed X (W.heap.size + 1) 3 (.int .i64 stop)
  b2 : Boxed X (W.heap.size + 1 + 1) 4 (.bool r)
  b3 : Boxed X (W.heap.size + 1 + 1 + 1) 3 (.int .i64 (k : Int))
theorem GI.own {W : World} {wv : Value} {stop : Int} {r : Bool} {k : Nat} {B : Nat} (hB : W.heap.size ≤ B) : OwnFrom (β := Unit) B (fun _ X => GI W wv stop r k X) := fun s X Y row h hg hr => by
  have hr' : ∀ r, row = some r → ∃ o : Obj, X.heap[r]? = some o ∧ o.isCells = false := fun r e => (hr r e).2
  exact ⟨ownFrom_below (β := Unit) (Nat.le_refl _) hB s X Y row h.bl hg hr, boxed_own (β := Unit) _ _ (fun _ => wv) s X Y row h.b0 hg hr', boxed_own (β := Unit) _ _ (fun _ => _) s X Y row h.b1 hg hr', boxed_own (β := Unit) _ _ (fun _ => _) s X Y row h.b2 hg hr', boxed_own (β := Unit) _ _ (fun _ => _) s X Y row h.b3 hg hr'⟩
theorem GI.alloc {W : World} {wv : Value} {stop : Int} {r : Bool} {k : Nat} {X : World} (h : GI W wv stop r k X) (o : Obj) : GI W wv stop r k (X.alloc o) :=
  ⟨h.bl.alloc h.bl.size o, h.b0.alloc o, h.b1.alloc o, h.b2.alloc o, h.b3.alloc o⟩
theorem GI.drew {W : World} {wv : Value} {stop : Int} {r : Bool} {k : Nat} {X : World} (h : GI W wv stop r k X) : GI W wv stop r k X.drew :=
  ⟨Below.drew h.bl, h.b0, h.b1, h.b2, h.b3⟩
theorem gen_worldIn {K : Act → World → Prop} {Q : Exit → Act → World → Prop} {a : Act} {w : World} (R : World → Prop) (h0 : R w) (h : ∀ W, R W → Exit.then K Q .normal a W) : Exit.then K Q .normal a w := h w h0
theorem keepsFrom_drew {B : Nat} {X X' : World} (h : KeepsFrom B X.drew X') : KeepsFrom B X X' := ⟨h.size, fun k o h1 h2 h3 => h.same k o h1 h2 h3⟩
theorem GI.res {W : World} {wv : Value} {stop : Int} {r : Bool} {k : Nat} {X : World} (h : GI W wv stop r k X) (r' : Bool) : GI W wv stop r' k (X.setCell ⟨W.heap.size + 1 + 1, 0, none⟩ (.bool r')) :=
  ⟨h.bl.setCell (by show W.heap.size ≤ W.heap.size + 1 + 1; omega) _, h.b0.other (by omega) _, h.b1.other (by omega) _, h.b2.set _, h.b3.other (by omega) _⟩
theorem GI.cnt {W : World} {wv : Value} {stop : Int} {r : Bool} {k : Nat} {X : World} (h : GI W wv stop r k X) (k' : Nat) : GI W wv stop r k' (X.setCell ⟨W.heap.size + 1 + 1 + 1, 0, none⟩ (.int .i64 (k' : Int))) :=
  ⟨h.bl.setCell (by show W.heap.size ≤ W.heap.size + 1 + 1 + 1; omega) _, h.b0.other (by omega) _, h.b1.other (by omega) _, h.b2.other (by omega) _, h.b3.set _⟩
theorem KeepsFrom.drewR {B : Nat} {X X' : World} (h : KeepsFrom B X X') : KeepsFrom B X X'.drew := ⟨h.size, fun k o h1 h2 h3 => h.same k o h1 h2 h3⟩
theorem GI.cntI {W : World} {wv : Value} {stop : Int} {r : Bool} {k : Nat} {X : World} (h : GI W wv stop r k X) {k' : Nat} {i : Int} (hi : (k' : Int) = i) : GI W wv stop r k' (X.setCell ⟨W.heap.size + 1 + 1 + 1, 0, none⟩ (.int .i64 i)) := by
  subst hi
  exact h.cnt k'
theorem goes_any (W : World) (lb nb : Nat) (v wv : Value) (l : List Al) (t stop : Int) (hlb : W.cell? ⟨lb, 0, none⟩ = some v) (hnb : W.cell? ⟨nb, 0, none⟩ = some (.int .i64 t)) (hs : AlsSl W v l) (hw : AlsSl W wv (dueA t l)) :
    Calls Try.prog 30 #[.func (.func 58) #[] #[.pointer (some ⟨lb, 0, none⟩), .pointer (some ⟨nb, 0, none⟩)], wv, .int .i64 stop] W fun e w' => e = .returned (.bool true) ∧ Ext W w' := by
  have HLB := hid_mk (And.intro hlb hnb)
  have HS := hid_mk hs
  have HW := hid_mk hw
  obtain ⟨wa, wc, rfl, hwlc, -, hwl, -⟩ := hw
  clear hlb hnb hs
  refine (callsIn_wide (n := 5)).1 ?_
  refine callsIn_of_wp_marks Try.func30 rfl trivial ?_ rfl
  simp only [Try.ntmps30, List.size_toArray, List.length_cons, List.length_nil, Nat.reduceAdd, Nat.reduceSub, Array.replicate_succ, Array.replicate_zero, List.push_toArray, List.append_toArray, List.nil_append, List.cons_append]
  gi_wp2
  have hx0 : Ext W ((((W.alloc (.cells #[.slice wa (dueA t l).length wc] 75)).alloc (.cells #[.int .i64 stop] 3)).alloc (.cells #[.bool false] 4)).alloc (.cells #[.int .i64 0] 3)) := by (repeat (first | exact Ext.refl _ | apply Ext.drew_left | apply Ext.drew | apply Ext.alloc))
  have b0 := Boxed.alloc (Boxed.alloc (Boxed.alloc (Boxed.new W 75 (.slice wa (dueA t l).length wc)) (.cells #[.int .i64 stop] 3)) (.cells #[.bool false] 4)) (.cells #[.int .i64 0] 3)
  have b1 := Boxed.alloc (Boxed.alloc (Boxed.new (W.alloc (.cells #[.slice wa (dueA t l).length wc] 75)) 3 (.int .i64 stop)) (.cells #[.bool false] 4)) (.cells #[.int .i64 0] 3)
  have b2 := Boxed.alloc (Boxed.new ((W.alloc (.cells #[.slice wa (dueA t l).length wc] 75)).alloc (.cells #[.int .i64 stop] 3)) 4 (.bool false)) (.cells #[.int .i64 0] 3)
  have b3 := Boxed.new (((W.alloc (.cells #[.slice wa (dueA t l).length wc] 75)).alloc (.cells #[.int .i64 stop] 3)).alloc (.cells #[.bool false] 4)) 3 (.int .i64 0)
  simp only [World.size_alloc] at b1 b2 b3
  obtain ⟨W0, hW0⟩ : ∃ W0, ((((W.alloc (.cells #[.slice wa (dueA t l).length wc] 75)).alloc (.cells #[.int .i64 stop] 3)).alloc (.cells #[.bool false] 4)).alloc (.cells #[.int .i64 0] 3)) = W0 := ⟨_, rfl⟩
  have hz : W.heap.size + 4 = W0.heap.size := by rw [← hW0]; simp
  rw [hW0] at b0 b1 b2 b3 hx0 ⊢
  have hG0 : GI W (.slice wa (dueA t l).length wc) stop false 0 W0 := ⟨hx0.below, b0, b1, b2, b3⟩
  clear hW0 b0 b1 b2 b3 hx0
  refine wpIn_rangeFunc_ownH (F := Fence.wide) (n := 5) (encs := fun x : Al => #[.agg #[.int .i64 x.1.1, .int .i64 x.1.2.1, .int .i64 x.1.2.2], .int .i64 x.2]) rfl (by omega) (gf := 58) (lb := #[.pointer (some ⟨lb, 0, none⟩), .pointer (some ⟨nb, 0, none⟩)]) rfl trivial (enters_of Try.func58 (by kernel_rfl) rfl)
    (due_stops Fence.wide 4 trivial rfl (by omega) lb nb v l t W HLB.out.1 HLB.out.2 HS.out) belowK_t (belowK_b (by omega)) hG0.bl (fun _ => rfl)
    (fun pre X => GI W (.slice wa (dueA t l).length wc) stop false pre.length X ∧ pre <+: dueA t l)
    (fun c pre X => c = .ret ∧ ∃ r k, GI W (.slice wa (dueA t l).length wc) stop r k X ∧ (r = true ∨ ¬ pre <+: dueA t l))
    (fun s X Y row h hg hr => ⟨GI.own (by omega) () X Y row h.1 hg hr, h.2⟩)
    (fun c s X Y row h hg hr => by
      obtain ⟨h1, r, k, h2, h3⟩ := h
      exact ⟨h1, r, k, GI.own (by omega) () X Y row h2 hg hr, h3⟩)
    ⟨hG0, List.nil_prefix⟩
    (fun x a' X => ∃ B1, X.heap[B1]? = some (.cells #[.int .i64 x.1.1, .int .i64 x.1.2.1, .int .i64 x.1.2.2] 54 (0, 0)) ∧ a' = { tmps := #[
      .func (.func 58) #[] #[.pointer (some ⟨lb, 0, none⟩), .pointer (some ⟨nb, 0, none⟩)], .slice wa (dueA t l).length wc, .int .i64 stop, undef, .pointer (some ⟨W.heap.size, 0, none⟩), .pointer (some ⟨W.heap.size + 1, 0, none⟩), .pointer (some ⟨W.heap.size + 1 + 1, 0, none⟩), .pointer (some ⟨W.heap.size + 1 + 1 + 1, 0, none⟩), .pointer (some ⟨B1, 0, none⟩), .int .i64 x.2,
      .func (.func 58) #[] #[.pointer (some ⟨lb, 0, none⟩), .pointer (some ⟨nb, 0, none⟩)], .bool false, .func (.func 58) #[] #[.pointer (some ⟨lb, 0, none⟩), .pointer (some ⟨nb, 0, none⟩)], .agg #[.int .i64 x.1.1, .int .i64 x.1.2.1, .int .i64 x.1.2.2], .int .i64 x.2, undef, undef, undef, undef, undef, undef, undef, undef, undef, undef, undef, undef, undef, undef, undef, undef, undef, undef, undef, undef, undef, undef, undef, undef, undef, undef, undef, undef, undef, undef, undef], defers := [] })
    (fun x a' _ X Y row hs hg hr => by
      obtain ⟨B1, h1, h3⟩ := hs
      exact ⟨B1, (hg.block B1 (Array.getElem?_eq_some_iff.1 h1).1 (fun e' => by obtain ⟨_, o, ho, hc⟩ := hr B1 e'.symm; rw [h1] at ho; cases ho; cases hc)).trans h1, h3⟩)
    ?assign ?body ?done ?stop
  case assign =>
    rintro lp pre x X K hB hK
    gi_wp2
    have hz2 := hB.1.bl.size
    exact hK _ _ ((KeepsOthers.alloc _ _).from _) (below_allocA hz2 _) ⟨hB.1.alloc _, hB.2⟩ ⟨X.heap.size, World.alloc_heap_new X _, rfl⟩
  case body =>
    rintro lp pre x a' X hl hr ⟨hg, hpre⟩ ⟨B1, hB1, rfl⟩ hlt
    clear hr
    have HG := hid_mk hg
    have HPRE := hid_mk hpre
    obtain ⟨a9, c9, e9, -, -, -, h9⟩ := HW.out
    cases e9
    obtain ⟨wb, rfl, hat⟩ := h9 (by omega)
    obtain ⟨w0, w1, w2, w3⟩ := (hat pre.length hlt).ext (Ext.of hg.bl)
    have hwl2 := cell_lt w0
    have HNX := hid_mk (show pre ++ [x] <+: dueA t l ↔ x = (dueA t l)[pre.length] from pre_snoc hpre hlt)
    obtain ⟨y, hy⟩ : ∃ y, (dueA t l)[pre.length] = y := ⟨_, rfl⟩
    rw [hy] at w0 w1 w2 w3 HNX
    clear hy hat h9 hpre
    have d0 := hg.b0.cell
    have d1 := hg.b1.cell
    have d2 := hg.b2.cell
    have f2 := hg.b2.frozen
    have d3 := hg.b3.cell
    have f3 := hg.b3.frozen
    have n0 : X.cell? ⟨B1, 0, none⟩ = some (.int .i64 x.1.1) := by simp [World.cell?, hB1]
    have n1 : X.cell? ⟨B1, 1, none⟩ = some (.int .i64 x.1.2.1) := by simp [World.cell?, hB1]
    have n2 : X.cell? ⟨B1, 2, none⟩ = some (.int .i64 x.1.2.2) := by simp [World.cell?, hB1]
    have hnl := cell_lt n0
    have hd0l := cell_lt d0
    have hd1l := cell_lt d1
    have hd2l := cell_lt d2
    have hdl := cell_lt d3
    have hk0 : (0 : Int) ≤ (pre.length : Int) := by omega
    have hk1 : (pre.length : Int) < ((dueA t l).length : Int) := by omega
    have hk2 : ¬ ((dueA t l).length : Int) ≤ (pre.length : Int) := by omega
    have hk4 : ¬ (dueA t l).length ≤ pre.length := by omega
    clear hg hB1
    by_cases h1 : x.1 = y.1
    · have hne : decide (x.1 = y.1) = true := decide_eq_true h1
      by_cases h2 : x.2 = y.2
      · have hxy : x = y := Prod.ext h1 h2
        gi_wp2
        refine wpIn_region_round (fun _ => true) (.quiet 0 (.quiet 1 (.quiet 2 (.quiet 3 (.quiet 4 (.quiet 5 (.quiet 6 (.quiet 7 (.quiet 8 (.quiet 9 (.quiet 10 (.quiet 11 (.quiet 12 (.quiet 13 (.quiet 14 (.quiet 15 (.quiet 16 (.quiet 17 (.quiet 18 (.quiet 19 (.quiet 20 (.quiet 21 .done)))))))))))))))))))))) (by kernel_rfl) (by kernel_rfl) (by intro c a w d v h; cases d <;> exact h) (by kernel_rfl) (by rintro ⟨_, _, h⟩; exact h) (fun ops HO => ?_)
        refine plan_read _ (hi_of HO rfl) rfl (fun w' hE => by (repeat (with_reducible replace hE := Ext.unD hE)); have hcE := hE.hc; clear hE; go_simp; rfl) ?_
        simp only [Act.put, List.setIfInBounds_toArray, List.set_cons_succ, List.set_cons_zero]
        refine plan_read _ (hi_of HO rfl) rfl (fun w' hE => by (repeat (with_reducible replace hE := Ext.unD hE)); have hcE := hE.hc; clear hE; go_simp; rfl) ?_
        simp only [Act.put, List.setIfInBounds_toArray, List.set_cons_succ, List.set_cons_zero]
        refine plan_read _ (hi_of HO rfl) rfl (fun w' hE => by (repeat (with_reducible replace hE := Ext.unD hE)); have hcE := hE.hc; clear hE; go_simp; rfl) ?_
        simp only [Act.put, List.setIfInBounds_toArray, List.set_cons_succ, List.set_cons_zero]
        refine plan_read _ (hi_of HO rfl) rfl (fun w' hE => by (repeat (with_reducible replace hE := Ext.unD hE)); have hcE := hE.hc; clear hE; go_simp; rfl) ?_
        simp only [Act.put, List.setIfInBounds_toArray, List.set_cons_succ, List.set_cons_zero]
        refine plan_read _ (hi_of HO rfl) rfl (fun w' hE => by (repeat (with_reducible replace hE := Ext.unD hE)); have hcE := hE.hc; clear hE; go_simp; rfl) ?_
        simp only [Act.put, List.setIfInBounds_toArray, List.set_cons_succ, List.set_cons_zero]
        refine plan_read _ (hi_of HO rfl) (by rw [HO.out]; rfl) (fun w' hE => by (repeat (with_reducible replace hE := Ext.unD hE)); have hcE := hE.hc; clear hE; go_simp; rfl) ?_
        simp only [Act.put, List.setIfInBounds_toArray, List.set_cons_succ, List.set_cons_zero]
        refine plan_read _ (hi_of HO rfl) (by rw [HO.out]; rfl) (fun w' hE => by (repeat (with_reducible replace hE := Ext.unD hE)); have hcE := hE.hc; clear hE; go_simp; rfl) ?_
        simp only [Act.put, List.setIfInBounds_toArray, List.set_cons_succ, List.set_cons_zero]
        refine plan_read _ (hi_of HO rfl) (by rw [HO.out]; rfl) (fun w' hE => by (repeat (with_reducible replace hE := Ext.unD hE)); have hcE := hE.hc; clear hE; go_simp; rfl) ?_
        simp only [Act.put, List.setIfInBounds_toArray, List.set_cons_succ, List.set_cons_zero]
        refine plan_read _ (hi_of HO rfl) (by rw [HO.out]; rfl) (fun w' hE => by (repeat (with_reducible replace hE := Ext.unD hE)); have hcE := hE.hc; clear hE; go_simp; rfl) ?_
        simp only [Act.put, List.setIfInBounds_toArray, List.set_cons_succ, List.set_cons_zero]
        refine plan_read _ (hi_of HO rfl) (by rw [HO.out]; rfl) (fun w' hE => by (repeat (with_reducible replace hE := Ext.unD hE)); have hcE := hE.hc; clear hE; go_simp; rfl) ?_
        simp only [Act.put, List.setIfInBounds_toArray, List.set_cons_succ, List.set_cons_zero]
        refine plan_read _ (hi_of HO rfl) (by rw [HO.out]; rfl) (fun w' hE => by (repeat (with_reducible replace hE := Ext.unD hE)); have hcE := hE.hc; clear hE; go_simp; rfl) ?_
        simp only [Act.put, List.setIfInBounds_toArray, List.set_cons_succ, List.set_cons_zero]
        refine plan_read _ (hi_of HO rfl) (by rw [HO.out]; rfl) (fun w' hE => by (repeat (with_reducible replace hE := Ext.unD hE)); have hcE := hE.hc; clear hE; go_simp; rfl) ?_
        simp only [Act.put, List.setIfInBounds_toArray, List.set_cons_succ, List.set_cons_zero]
        refine plan_read _ (hi_of HO rfl) rfl (fun w' hE => by (repeat (with_reducible replace hE := Ext.unD hE)); have hcE := hE.hc; clear hE; go_simp; rfl) ?_
        simp only [Act.put, List.setIfInBounds_toArray, List.set_cons_succ, List.set_cons_zero]
        refine plan_read _ (hi_of HO rfl) rfl (fun w' hE => by (repeat (with_reducible replace hE := Ext.unD hE)); have hcE := hE.hc; clear hE; go_simp; rfl) ?_
        simp only [Act.put, List.setIfInBounds_toArray, List.set_cons_succ, List.set_cons_zero]
        refine plan_read _ (hi_of HO rfl) (by rw [HO.out]; rfl) (fun w' hE => by (repeat (with_reducible replace hE := Ext.unD hE)); have hcE := hE.hc; clear hE; go_simp; rfl) ?_
        simp only [Act.put, List.setIfInBounds_toArray, List.set_cons_succ, List.set_cons_zero]
        refine plan_read _ (hi_of HO rfl) (by rw [HO.out]; rfl) (fun w' hE => by (repeat (with_reducible replace hE := Ext.unD hE)); have hcE := hE.hc; clear hE; go_simp; rfl) ?_
        simp only [Act.put, List.setIfInBounds_toArray, List.set_cons_succ, List.set_cons_zero]
        refine plan_read _ (hi_of HO rfl) (by rw [HO.out]; rfl) (fun w' hE => by (repeat (with_reducible replace hE := Ext.unD hE)); have hcE := hE.hc; clear hE; go_simp; rfl) ?_
        simp only [Act.put, List.setIfInBounds_toArray, List.set_cons_succ, List.set_cons_zero]
        refine plan_read _ (hi_of HO rfl) (by rw [HO.out]; rfl) (fun w' hE => by (repeat (with_reducible replace hE := Ext.unD hE)); have hcE := hE.hc; clear hE; go_simp; rfl) ?_
        simp only [Act.put, List.setIfInBounds_toArray, List.set_cons_succ, List.set_cons_zero]
        refine plan_read _ (hi_of HO rfl) (by rw [HO.out]; rfl) (fun w' hE => by (repeat (with_reducible replace hE := Ext.unD hE)); have hcE := hE.hc; clear hE; go_simp; rfl) ?_
        simp only [Act.put, List.setIfInBounds_toArray, List.set_cons_succ, List.set_cons_zero]
        refine plan_read _ (hi_of HO rfl) (by rw [HO.out]; rfl) (fun w' hE => by (repeat (with_reducible replace hE := Ext.unD hE)); have hcE := hE.hc; clear hE; go_simp; rfl) ?_
        simp only [Act.put, List.setIfInBounds_toArray, List.set_cons_succ, List.set_cons_zero]
        refine plan_read _ (hi_of HO rfl) (by rw [HO.out]; rfl) (fun w' hE => by (repeat (with_reducible replace hE := Ext.unD hE)); have hcE := hE.hc; clear hE; go_simp; rfl) ?_
        simp only [Act.put, List.setIfInBounds_toArray, List.set_cons_succ, List.set_cons_zero]
        refine plan_read _ (hi_of HO rfl) rfl (fun w' hE => by (repeat (with_reducible replace hE := Ext.unD hE)); have hcE := hE.hc; clear hE; go_simp; rfl) ?_
        simp only [Act.put, List.setIfInBounds_toArray, List.set_cons_succ, List.set_cons_zero]
        refine plan_done ?fin101
        gi_wp2
        · exact ⟨KeepsFrom.drewR (((KeepsOthers.setCell _ _ _).from _).trans ((KeepsOthers.setCell _ _ _).from _)), rfl, true, _, ((HG.out.cntI (k' := pre.length + 1) (by simp)).res true).drew, .inl rfl⟩
        · exact ⟨KeepsFrom.drewR ((KeepsOthers.setCell _ _ _).from _), Below.drew ((Below.refl _ _).setCell (p := ⟨W.heap.size + 1 + 1 + 1, 0, none⟩) (by show W.heap.size ≤ W.heap.size + 1 + 1 + 1; omega) _), (HG.out.cntI (by simp)).drew, HNX.out.2 hxy⟩
      · gi_wp2
        refine wpIn_region_round (fun _ => true) (.quiet 0 (.quiet 1 (.quiet 2 (.quiet 3 (.quiet 4 (.quiet 5 (.quiet 6 (.quiet 7 (.quiet 8 (.quiet 9 (.quiet 10 (.quiet 11 (.quiet 12 (.quiet 13 (.quiet 14 (.quiet 15 (.quiet 16 (.quiet 17 (.quiet 18 (.quiet 19 (.quiet 20 (.quiet 21 .done)))))))))))))))))))))) (by kernel_rfl) (by kernel_rfl) (by intro c a w d v h; cases d <;> exact h) (by kernel_rfl) (by rintro ⟨_, _, h⟩; exact h) (fun ops HO => ?_)
        refine plan_read _ (hi_of HO rfl) rfl (fun w' hE => by (repeat (with_reducible replace hE := Ext.unD hE)); have hcE := hE.hc; clear hE; go_simp; rfl) ?_
        simp only [Act.put, List.setIfInBounds_toArray, List.set_cons_succ, List.set_cons_zero]
        refine plan_read _ (hi_of HO rfl) rfl (fun w' hE => by (repeat (with_reducible replace hE := Ext.unD hE)); have hcE := hE.hc; clear hE; go_simp; rfl) ?_
        simp only [Act.put, List.setIfInBounds_toArray, List.set_cons_succ, List.set_cons_zero]
        refine plan_read _ (hi_of HO rfl) rfl (fun w' hE => by (repeat (with_reducible replace hE := Ext.unD hE)); have hcE := hE.hc; clear hE; go_simp; rfl) ?_
        simp only [Act.put, List.setIfInBounds_toArray, List.set_cons_succ, List.set_cons_zero]
        refine plan_read _ (hi_of HO rfl) rfl (fun w' hE => by (repeat (with_reducible replace hE := Ext.unD hE)); have hcE := hE.hc; clear hE; go_simp; rfl) ?_
        simp only [Act.put, List.setIfInBounds_toArray, List.set_cons_succ, List.set_cons_zero]
        refine plan_read _ (hi_of HO rfl) rfl (fun w' hE => by (repeat (with_reducible replace hE := Ext.unD hE)); have hcE := hE.hc; clear hE; go_simp; rfl) ?_
        simp only [Act.put, List.setIfInBounds_toArray, List.set_cons_succ, List.set_cons_zero]
        refine plan_read _ (hi_of HO rfl) (by rw [HO.out]; rfl) (fun w' hE => by (repeat (with_reducible replace hE := Ext.unD hE)); have hcE := hE.hc; clear hE; go_simp; rfl) ?_
        simp only [Act.put, List.setIfInBounds_toArray, List.set_cons_succ, List.set_cons_zero]
        refine plan_read _ (hi_of HO rfl) (by rw [HO.out]; rfl) (fun w' hE => by (repeat (with_reducible replace hE := Ext.unD hE)); have hcE := hE.hc; clear hE; go_simp; rfl) ?_
        simp only [Act.put, List.setIfInBounds_toArray, List.set_cons_succ, List.set_cons_zero]
        refine plan_read _ (hi_of HO rfl) (by rw [HO.out]; rfl) (fun w' hE => by (repeat (with_reducible replace hE := Ext.unD hE)); have hcE := hE.hc; clear hE; go_simp; rfl) ?_
        simp only [Act.put, List.setIfInBounds_toArray, List.set_cons_succ, List.set_cons_zero]
        refine plan_read _ (hi_of HO rfl) (by rw [HO.out]; rfl) (fun w' hE => by (repeat (with_reducible replace hE := Ext.unD hE)); have hcE := hE.hc; clear hE; go_simp; rfl) ?_
        simp only [Act.put, List.setIfInBounds_toArray, List.set_cons_succ, List.set_cons_zero]
        refine plan_read _ (hi_of HO rfl) (by rw [HO.out]; rfl) (fun w' hE => by (repeat (with_reducible replace hE := Ext.unD hE)); have hcE := hE.hc; clear hE; go_simp; rfl) ?_
        simp only [Act.put, List.setIfInBounds_toArray, List.set_cons_succ, List.set_cons_zero]
        refine plan_read _ (hi_of HO rfl) (by rw [HO.out]; rfl) (fun w' hE => by (repeat (with_reducible replace hE := Ext.unD hE)); have hcE := hE.hc; clear hE; go_simp; rfl) ?_
        simp only [Act.put, List.setIfInBounds_toArray, List.set_cons_succ, List.set_cons_zero]
        refine plan_read _ (hi_of HO rfl) (by rw [HO.out]; rfl) (fun w' hE => by (repeat (with_reducible replace hE := Ext.unD hE)); have hcE := hE.hc; clear hE; go_simp; rfl) ?_
        simp only [Act.put, List.setIfInBounds_toArray, List.set_cons_succ, List.set_cons_zero]
        refine plan_read _ (hi_of HO rfl) rfl (fun w' hE => by (repeat (with_reducible replace hE := Ext.unD hE)); have hcE := hE.hc; clear hE; go_simp; rfl) ?_
        simp only [Act.put, List.setIfInBounds_toArray, List.set_cons_succ, List.set_cons_zero]
        refine plan_read _ (hi_of HO rfl) rfl (fun w' hE => by (repeat (with_reducible replace hE := Ext.unD hE)); have hcE := hE.hc; clear hE; go_simp; rfl) ?_
        simp only [Act.put, List.setIfInBounds_toArray, List.set_cons_succ, List.set_cons_zero]
        refine plan_read _ (hi_of HO rfl) (by rw [HO.out]; rfl) (fun w' hE => by (repeat (with_reducible replace hE := Ext.unD hE)); have hcE := hE.hc; clear hE; go_simp; rfl) ?_
        simp only [Act.put, List.setIfInBounds_toArray, List.set_cons_succ, List.set_cons_zero]
        refine plan_read _ (hi_of HO rfl) (by rw [HO.out]; rfl) (fun w' hE => by (repeat (with_reducible replace hE := Ext.unD hE)); have hcE := hE.hc; clear hE; go_simp; rfl) ?_
        simp only [Act.put, List.setIfInBounds_toArray, List.set_cons_succ, List.set_cons_zero]
        refine plan_read _ (hi_of HO rfl) (by rw [HO.out]; rfl) (fun w' hE => by (repeat (with_reducible replace hE := Ext.unD hE)); have hcE := hE.hc; clear hE; go_simp; rfl) ?_
        simp only [Act.put, List.setIfInBounds_toArray, List.set_cons_succ, List.set_cons_zero]
        refine plan_read _ (hi_of HO rfl) (by rw [HO.out]; rfl) (fun w' hE => by (repeat (with_reducible replace hE := Ext.unD hE)); have hcE := hE.hc; clear hE; go_simp; rfl) ?_
        simp only [Act.put, List.setIfInBounds_toArray, List.set_cons_succ, List.set_cons_zero]
        refine plan_read _ (hi_of HO rfl) (by rw [HO.out]; rfl) (fun w' hE => by (repeat (with_reducible replace hE := Ext.unD hE)); have hcE := hE.hc; clear hE; go_simp; rfl) ?_
        simp only [Act.put, List.setIfInBounds_toArray, List.set_cons_succ, List.set_cons_zero]
        refine plan_read _ (hi_of HO rfl) (by rw [HO.out]; rfl) (fun w' hE => by (repeat (with_reducible replace hE := Ext.unD hE)); have hcE := hE.hc; clear hE; go_simp; rfl) ?_
        simp only [Act.put, List.setIfInBounds_toArray, List.set_cons_succ, List.set_cons_zero]
        refine plan_read _ (hi_of HO rfl) (by rw [HO.out]; rfl) (fun w' hE => by (repeat (with_reducible replace hE := Ext.unD hE)); have hcE := hE.hc; clear hE; go_simp; rfl) ?_
        simp only [Act.put, List.setIfInBounds_toArray, List.set_cons_succ, List.set_cons_zero]
        refine plan_read _ (hi_of HO rfl) rfl (fun w' hE => by (repeat (with_reducible replace hE := Ext.unD hE)); have hcE := hE.hc; clear hE; go_simp; rfl) ?_
        simp only [Act.put, List.setIfInBounds_toArray, List.set_cons_succ, List.set_cons_zero]
        refine plan_done ?fin102
        gi_wp2
        exact ⟨keepsFrom_drew ((KeepsOthers.setCell _ _ _).from _), rfl, false, _, HG.out.drew.res false, .inr (fun h => h2 (by rw [HNX.out.1 h]))⟩
    · have hne : decide (x.1 = y.1) = false := decide_eq_false h1
      gi_wp2
      refine wpIn_region_round (fun _ => true) (.quiet 0 (.quiet 1 (.quiet 2 (.quiet 3 (.quiet 4 (.quiet 5 (.quiet 6 (.quiet 7 (.quiet 8 (.quiet 9 (.quiet 10 (.quiet 11 (.quiet 12 (.quiet 13 (.quiet 14 (.quiet 15 (.quiet 16 (.quiet 17 (.quiet 18 (.quiet 19 (.quiet 20 (.quiet 21 .done)))))))))))))))))))))) (by kernel_rfl) (by kernel_rfl) (by intro c a w d v h; cases d <;> exact h) (by kernel_rfl) (by rintro ⟨_, _, h⟩; exact h) (fun ops HO => ?_)
      refine plan_read _ (hi_of HO rfl) rfl (fun w' hE => by (repeat (with_reducible replace hE := Ext.unD hE)); have hcE := hE.hc; clear hE; go_simp; rfl) ?_
      simp only [Act.put, List.setIfInBounds_toArray, List.set_cons_succ, List.set_cons_zero]
      refine plan_read _ (hi_of HO rfl) rfl (fun w' hE => by (repeat (with_reducible replace hE := Ext.unD hE)); have hcE := hE.hc; clear hE; go_simp; rfl) ?_
      simp only [Act.put, List.setIfInBounds_toArray, List.set_cons_succ, List.set_cons_zero]
      refine plan_read _ (hi_of HO rfl) rfl (fun w' hE => by (repeat (with_reducible replace hE := Ext.unD hE)); have hcE := hE.hc; clear hE; go_simp; rfl) ?_
      simp only [Act.put, List.setIfInBounds_toArray, List.set_cons_succ, List.set_cons_zero]
      refine plan_read _ (hi_of HO rfl) rfl (fun w' hE => by (repeat (with_reducible replace hE := Ext.unD hE)); have hcE := hE.hc; clear hE; go_simp; rfl) ?_
      simp only [Act.put, List.setIfInBounds_toArray, List.set_cons_succ, List.set_cons_zero]
      refine plan_read _ (hi_of HO rfl) rfl (fun w' hE => by (repeat (with_reducible replace hE := Ext.unD hE)); have hcE := hE.hc; clear hE; go_simp; rfl) ?_
      simp only [Act.put, List.setIfInBounds_toArray, List.set_cons_succ, List.set_cons_zero]
      refine plan_read _ (hi_of HO rfl) (by rw [HO.out]; rfl) (fun w' hE => by (repeat (with_reducible replace hE := Ext.unD hE)); have hcE := hE.hc; clear hE; go_simp; rfl) ?_
      simp only [Act.put, List.setIfInBounds_toArray, List.set_cons_succ, List.set_cons_zero]
      refine plan_read _ (hi_of HO rfl) (by rw [HO.out]; rfl) (fun w' hE => by (repeat (with_reducible replace hE := Ext.unD hE)); have hcE := hE.hc; clear hE; go_simp; rfl) ?_
      simp only [Act.put, List.setIfInBounds_toArray, List.set_cons_succ, List.set_cons_zero]
      refine plan_read _ (hi_of HO rfl) (by rw [HO.out]; rfl) (fun w' hE => by (repeat (with_reducible replace hE := Ext.unD hE)); have hcE := hE.hc; clear hE; go_simp; rfl) ?_
      simp only [Act.put, List.setIfInBounds_toArray, List.set_cons_succ, List.set_cons_zero]
      refine plan_read _ (hi_of HO rfl) (by rw [HO.out]; rfl) (fun w' hE => by (repeat (with_reducible replace hE := Ext.unD hE)); have hcE := hE.hc; clear hE; go_simp; rfl) ?_
      simp only [Act.put, List.setIfInBounds_toArray, List.set_cons_succ, List.set_cons_zero]
      refine plan_read _ (hi_of HO rfl) (by rw [HO.out]; rfl) (fun w' hE => by (repeat (with_reducible replace hE := Ext.unD hE)); have hcE := hE.hc; clear hE; go_simp; rfl) ?_
      simp only [Act.put, List.setIfInBounds_toArray, List.set_cons_succ, List.set_cons_zero]
      refine plan_read _ (hi_of HO rfl) (by rw [HO.out]; rfl) (fun w' hE => by (repeat (with_reducible replace hE := Ext.unD hE)); have hcE := hE.hc; clear hE; go_simp; rfl) ?_
      simp only [Act.put, List.setIfInBounds_toArray, List.set_cons_succ, List.set_cons_zero]
      refine plan_read _ (hi_of HO rfl) (by rw [HO.out]; rfl) (fun w' hE => by (repeat (with_reducible replace hE := Ext.unD hE)); have hcE := hE.hc; clear hE; go_simp; rfl) ?_
      simp only [Act.put, List.setIfInBounds_toArray, List.set_cons_succ, List.set_cons_zero]
      refine plan_read _ (hi_of HO rfl) rfl (fun w' hE => by (repeat (with_reducible replace hE := Ext.unD hE)); have hcE := hE.hc; clear hE; go_simp; rfl) ?_
      simp only [Act.put, List.setIfInBounds_toArray, List.set_cons_succ, List.set_cons_zero]
      refine plan_read _ (hi_of HO rfl) rfl (fun w' hE => by (repeat (with_reducible replace hE := Ext.unD hE)); have hcE := hE.hc; clear hE; go_simp; rfl) ?_
      simp only [Act.put, List.setIfInBounds_toArray, List.set_cons_succ, List.set_cons_zero]
      refine plan_skip (hi_of HO rfl) (by rw [HO.out]; rfl) ?_
      simp only [Act.put, List.setIfInBounds_toArray, List.set_cons_succ, List.set_cons_zero]
      refine plan_skip (hi_of HO rfl) (by rw [HO.out]; rfl) ?_
      simp only [Act.put, List.setIfInBounds_toArray, List.set_cons_succ, List.set_cons_zero]
      refine plan_skip (hi_of HO rfl) (by rw [HO.out]; rfl) ?_
      simp only [Act.put, List.setIfInBounds_toArray, List.set_cons_succ, List.set_cons_zero]
      refine plan_skip (hi_of HO rfl) (by rw [HO.out]; rfl) ?_
      simp only [Act.put, List.setIfInBounds_toArray, List.set_cons_succ, List.set_cons_zero]
      refine plan_skip (hi_of HO rfl) (by rw [HO.out]; rfl) ?_
      simp only [Act.put, List.setIfInBounds_toArray, List.set_cons_succ, List.set_cons_zero]
      refine plan_skip (hi_of HO rfl) (by rw [HO.out]; rfl) ?_
      simp only [Act.put, List.setIfInBounds_toArray, List.set_cons_succ, List.set_cons_zero]
      refine plan_skip (hi_of HO rfl) (by rw [HO.out]; rfl) ?_
      simp only [Act.put, List.setIfInBounds_toArray, List.set_cons_succ, List.set_cons_zero]
      refine plan_read _ (hi_of HO rfl) rfl (fun w' hE => by (repeat (with_reducible replace hE := Ext.unD hE)); have hcE := hE.hc; clear hE; go_simp; rfl) ?_
      simp only [Act.put, List.setIfInBounds_toArray, List.set_cons_succ, List.set_cons_zero]
      refine plan_done ?fin103
      gi_wp2
      exact ⟨keepsFrom_drew ((KeepsOthers.setCell _ _ _).from _), rfl, false, _, HG.out.drew.res false, .inr (fun h => h1 (by rw [HNX.out.1 h]))⟩
  case done =>
    rintro D zs X hD hS hB hK
    obtain rfl : zs = dueA t l := hS
    obtain ⟨hg, -⟩ := hB
    have d0 := hg.b0.cell
    have d2 := hg.b2.cell
    have f2 := hg.b2.frozen
    have d3 := hg.b3.cell
    gi_wp2
    have hK' := (KeepsOthers.setCell X ⟨W.heap.size + 1 + 1, 0, none⟩ (.bool true)).same D _ hK rfl
    refine ⟨by simp, .inl ⟨_, _, rfl, run_takeDeferred hK', ?_⟩⟩
    have hc5 := cell_kept (World.cell?_setCell_same' X ⟨W.heap.size + 1 + 1, 0, none⟩ (.bool true) (by rw [d2]; rfl)) (grownBy_putObj' _ D (.deferred none)) (fun r e => by cases e; exact ⟨_, hK', rfl⟩)
    refine ⟨.bool true, ?_, rfl, ?_⟩
    · unfold results
      rw [Try.results30]
      simp [go_sem, hc5]
    · exact Ext.of (((hg.res true).bl).trans (belowK_b (w := W) (Nat.le_refl _) _ D _ _ (by omega) hK' rfl rfl))
  case stop =>
    rintro D c pre X hD hS ⟨rfl, r, k, hg, hor⟩ hK
    obtain rfl : r = true := hor.elim id fun h => absurd hS h
    gi_wp2
    refine ⟨by simp, .inl ⟨_, _, rfl, run_takeDeferred hK, ?_⟩⟩
    have hc5 := cell_kept hg.b2.cell (grownBy_putObj' _ D (.deferred none)) (fun r e => by cases e; exact ⟨_, hK, rfl⟩)
    refine ⟨.bool true, ?_, rfl, ?_⟩
    · unfold results
      rw [Try.results30]
      simp [go_sem, hc5]
    · exact Ext.of (hg.bl.trans (belowK_b (w := W) (Nat.le_refl _) _ D _ _ (by omega) hK rfl rfl))
end Go.Proofs.Ytiimoaplhhnklaa
