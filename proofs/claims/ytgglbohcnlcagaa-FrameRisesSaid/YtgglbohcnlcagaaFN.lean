/- Ranges that rise: where none is empty and each ends ahead of the next one, the program says so. -/
import Derived.Test.YtgglbohcnlcagaaFM
import Derived.Test.YtgglbohcnlcagaaF2
namespace Go.Proofs.Ytgglbohcnlcagaa
open Go.RowKit Go.Shelf
set_option maxHeartbeats 4000000
set_option maxRecDepth 100000
set_option linter.unusedSimpArgs false
set_option linter.unusedVariables false
attribute [local go_sem] Oper.semAt_some

theorem boxed_extd {w w' : World} {B : Nat} {t : TypeId} {v : Value} (h : Boxed w B t v) (hx : Ext w w') : Boxed w' B t v := (hx.below.block B h.lt).trans h

theorem sRising_any (l : List Rng) (sv : Value) (w : World) (hs : RngSl w sv l) (hne : ∀ r ∈ l, rngEmpty r.lo r.hi r.op = false) (hr : Rises l) :
    Calls Try.prog 17 #[sv] w fun e w' => e = .returned (.bool true) ∧ Ext w w' := by
  have HS := hid_mk hs
  have HNE := hid_mk hne
  have HR := hid_mk hr
  clear hne hr
  obtain ⟨a, c, rfl, hl63, hcl⟩ := hs
  have HC := hid_mk hcl
  clear hcl
  refine (callsIn_wide (n := 5)).1 ?_
  refine callsIn_of_wp_marks Try.func17 rfl trivial ?_ rfl
  simp only [Try.ntmps17, List.size_toArray, List.length_cons, List.length_nil, Nat.reduceAdd, Nat.reduceSub, Array.replicate_succ, Array.replicate_zero, List.push_toArray, List.append_toArray, List.nil_append, List.cons_append]
  gi_wp2
  gi_loopw [9] (fun i wr => ∃ k : Nat, k ≤ l.length ∧ i = .int .i64 k ∧ Ext w wr ∧ Boxed wr w.heap.size 4 (.bool false)) (fun i _ => l.length - (intOf i).toNat)
  case atStart => exact ⟨0, Nat.zero_le _, rfl, by (repeat (first | exact Ext.refl _ | apply Ext.drew_left | apply Ext.drew | apply Ext.alloc)), Boxed.new _ _ _⟩
  case round =>
    obtain ⟨k, hk, rfl, hx, hb⟩ := hrel
    have HX := hid_mk hx
    have HB := hid_mk hb
    have hbl := hb.lt
    clear hx hb
    by_cases hlt : k < l.length
    · obtain ⟨b, o, rfl, hcl⟩ := HC.out (by omega)
      have hA := (hcl k hlt).ext HX.out
      clear hcl
      have HE := hid_mk (HNE.out l[k] (List.getElem_mem hlt))
      generalize l[k] = r at *
      obtain ⟨lo, hi, op⟩ := r
      obtain ⟨a0, a1, a2⟩ := hA
      dsimp only at a0 a1 a2 HE
      have hal := cell_lt a0
      have hk1 : (k : Int) < (l.length : Int) := by omega
      gi_wp2_with fail
      refine ⟨trivial, (callsIn_wide.2 (sEmpty_any lo hi op _)).mono ?_⟩
      rintro e w1 ⟨rfl, hx1⟩
      have HX1 := hid_mk (Ext.trans _ _ _ (show Ext wr _ by (repeat (first | exact Ext.refl _ | apply Ext.drew_left | apply Ext.drew | apply Ext.alloc))) hx1)
      rw [HE.out]
      clear hx1
      gi_wp2
      go_roundw
      case rel => exact ⟨k + 1, by omega, by go_num, Ext.trans _ _ _ HX.out HX1.out, boxed_extd HB.out HX1.out⟩
      case measure => simp [intOf]; omega
    · have e : k = l.length := by omega
      subst e
      gi_wp2_with fail
      refine ⟨trivial, (callsIn_wide.2 (pairs_any l _ _ (HS.out.ext HX.out))).mono ?_⟩
      rintro e w1 ⟨rfl, rfl⟩
      gi_wp2
      have bN := Boxed.new wr 30 (.slice a l.length c)
      have hx0 : Ext w (wr.alloc (.cells #[.slice a l.length c] 30)) := HX.out.alloc _
      have hb0 := Boxed.alloc HB.out (.cells #[.slice a l.length c] 30)
      have hsz : (wr.alloc (.cells #[.slice a l.length c] 30)).heap.size = wr.heap.size + 1 := by simp
      obtain ⟨W0, hW0⟩ : ∃ W0, wr.alloc (.cells #[.slice a l.length c] 30) = W0 := ⟨_, rfl⟩
      rw [hW0] at bN hx0 hb0 hsz ⊢
      clear hW0
      refine wpIn_rangeFunc_ownH (F := Fence.wide) (n := 5) (encs := fun x : RPair => #[.agg #[.string x.1.1.lo, .string x.1.1.hi, .bool x.1.1.op], .agg #[.string x.1.2.lo, .string x.1.2.hi, .bool x.1.2.op]]) rfl (by omega) (gf := 109) (lb := #[.pointer (some ⟨wr.heap.size, 0, none⟩)]) rfl trivial (enters_of Try.func109 (by kernel_rfl) rfl)
        (pairs_stops Fence.wide 4 trivial rfl (by omega) wr.heap.size _ l W0 bN.cell (HS.out.ext hx0) HR.out) belowK_t (belowK_b (Nat.le_refl _)) (Below.refl _ _) (fun _ => rfl)
        (fun pre W => Below W0.heap.size W0 W)
        (fun _ _ _ => False)
        (ownFrom_below (Nat.le_refl _) (Nat.le_refl _))
        (fun _ _ _ _ _ hs _ _ => hs)
        (Below.refl _ _)
        (fun x a' W => ∃ B1 B2, W.heap[B1]? = some (.cells #[.string x.1.1.lo, .string x.1.1.hi, .bool x.1.1.op] 33 (0, 0)) ∧ W.heap[B2]? = some (.cells #[.string x.1.2.lo, .string x.1.2.hi, .bool x.1.2.op] 33 (0, 0)) ∧
          a' = { tmps := #[.slice a l.length c, undef, .pointer (some ⟨w.heap.size, 0, none⟩), undef, u4, .pointer (some ⟨B1, 0, none⟩), .pointer (some ⟨B2, 0, none⟩), .slice a l.length c, .int .i64 l.length, .int .i64 l.length, .bool false, u11, u12, u13, u14, u15, .slice a l.length c, .func (.func 109) #[] #[.pointer (some ⟨wr.heap.size, 0, none⟩)],
            .agg #[.string x.1.1.lo, .string x.1.1.hi, .bool x.1.1.op], .agg #[.string x.1.2.lo, .string x.1.2.hi, .bool x.1.2.op], undef, undef, undef, undef, undef, undef, undef, undef, undef], defers := [] })
        (fun x a' _ X Y row hs hg hr => by
          obtain ⟨B1, B2, h1, h2, h3⟩ := hs
          have keep : ∀ B cs, X.heap[B]? = some (Obj.cells cs 33 (0, 0)) → Y.heap[B]? = some (Obj.cells cs 33 (0, 0)) := fun B cs h =>
            (hg.block B (Array.getElem?_eq_some_iff.1 h).1 (fun e' => by obtain ⟨_, o, ho, hc⟩ := hr B e'.symm; rw [h] at ho; cases ho; cases hc)).trans h
          exact ⟨B1, B2, keep _ _ h1, keep _ _ h2, h3⟩)
        ?assign ?body ?done ?stop
      case assign =>
        rintro lp pre x W K hB hK
        gi_wp2
        have hz := hB.size
        refine hK _ _ (((KeepsOthers.alloc _ _).from _).trans ((KeepsOthers.alloc _ _).from _)) (((Below.refl _ W).alloc hz _).alloc (by simp; omega) _) ((hB.alloc hz _).alloc (by simp; omega) _) ⟨W.heap.size, W.heap.size + 1, ?_, ?_, rfl⟩
        · exact (Below.heap_alloc _ _ _ (by simp)).trans (World.alloc_heap_new W _)
        · have h := World.alloc_heap_new (W.alloc (.cells #[.string x.1.1.lo, .string x.1.1.hi, .bool x.1.1.op] 33)) (.cells #[.string x.1.2.lo, .string x.1.2.hi, .bool x.1.2.op] 33)
          rwa [World.size_alloc] at h
      case body =>
        rintro lp pre x a' W hl hr hB ⟨B1, B2, h1, h2, rfl⟩ hlt
        obtain ⟨⟨⟨lo, hi, op⟩, ⟨lo', hi', op'⟩⟩, hx1, hx2⟩ := x
        dsimp only at hx1 hx2 h1 h2
        subst hx1
        have c2 : W.cell? ⟨B1, 2, none⟩ = some (.bool false) := by simp [World.cell?, h1]
        have c1 : W.cell? ⟨B1, 1, none⟩ = some (.string hi) := by simp [World.cell?, h1]
        have c0 : W.cell? ⟨B2, 0, none⟩ = some (.string lo') := by simp [World.cell?, h2]
        gi_wp2
        exact ⟨KeepsFrom.refl _ _, Below.refl _ _, hB⟩
      case done =>
        rintro D zs W hD _ hB hK
        have hb := boxed_extd hb0 (Ext.of hB)
        have cb := hb.cell
        have fb := hb.frozen
        gi_wp2
        have hK' := (KeepsOthers.setCell W ⟨w.heap.size, 0, none⟩ (.bool true)).same D _ hK rfl
        refine ⟨by simp, .inl ⟨_, _, rfl, run_takeDeferred hK', ?_⟩⟩
        have hc5 := cell_kept (World.cell?_setCell_same' W ⟨w.heap.size, 0, none⟩ (.bool true) (by rw [cb]; rfl)) (grownBy_putObj' _ D (.deferred none)) (fun r e => by cases e; exact ⟨_, hK', rfl⟩)
        refine ⟨.bool true, ?_, rfl, ?_⟩
        · unfold results
          rw [Try.results17]
          simp [go_sem, hc5]
        · have hz : w.heap.size ≤ W0.heap.size := hx0.below.size
          exact Ext.of (((hx0.below.trans (hB.mono hz)).setCell (p := ⟨w.heap.size, 0, none⟩) (Nat.le_refl _) _).trans (belowK_b (w := w) (Nat.le_refl _) _ D _ _ (by omega) hK' rfl rfl))
      case stop =>
        rintro D c pre W _ _ h _
        exact h.elim
end Go.Proofs.Ytgglbohcnlcagaa
