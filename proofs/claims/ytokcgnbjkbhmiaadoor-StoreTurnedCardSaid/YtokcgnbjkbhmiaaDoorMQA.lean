/- Stores: the tally of an entry, the join of two, the meter that counts joins. Stores in memory: the cells of a store, its meter, its tree; how they stay as they are. Stores: what is a version behind a clock; Node, Clock, Len; whether there is room; Get. -/
import Derived.Test.YtokcgnbjkbhmiaaDoorMKE
import Derived.Test.YtokcgnbjkbhmiaaDoorMTF4
import Derived.Test.YtokcgnbjkbhmiaaDoorMPA
namespace Go.Proofs.YtokcgnbjkbhmiaaDoor
open Go.RowKit Go.Lib
set_option maxHeartbeats 4000000
set_option maxRecDepth 100000
set_option linter.unusedSimpArgs false
set_option linter.unusedVariables false
theorem en_tlOf : Enters Tryd.prog 74 := ⟨_, Tryd.func74, by kernel_rfl, rfl⟩
theorem en_tlJoin : Enters Tryd.prog 52 := ⟨_, Tryd.func52, by kernel_rfl, rfl⟩
theorem en_tlMJoin : Enters Tryd.prog 71 := ⟨_, Tryd.func71, by kernel_rfl, rfl⟩
theorem en_tlNewMeter : Enters Tryd.prog 69 := ⟨_, Tryd.func69, by kernel_rfl, rfl⟩
theorem tlOf_any {w : World} (e : Ent) (hl : LanesAt w) : Calls Tryd.prog 74 #[entV e] w fun r w' => r = .returned (encS4 (tal1 e)) ∧ Ext w w' := by
  obtain ⟨y0, hy0⟩ : ∃ y, entS0 e = y := ⟨_, rfl⟩
  obtain ⟨y1, hy1⟩ : ∃ y, entS1 e = y := ⟨_, rfl⟩
  have HY0 := hid_mk hy0
  have HY1 := hid_mk hy1
  have HL := hid_mk hl
  unfold tal1
  rw [hy0, hy1]
  clear hy0 hy1 hl
  go_enter Tryd.func74, Tryd.ntmps74
  go_wp2_with fail
  refine gen_callsK (fun W => Ext w W ∧ TalAt W (w.heap.size + 1) 0 0 0) ⟨by (repeat (first | exact Ext.refl _ | apply Ext.drew_left | apply Ext.drew | apply Ext.alloc)), ⟨by have h := heap_alloc_new (w.alloc (.cells #[.string e.key, .int .i64 e.ctr, .int .i64 e.node, .string e.val, .bool e.dead] 57)) (.cells #[.int .i64 0, .int .u64 0, .int .u64 0] 32); rw [World.size_alloc] at h; exact h⟩⟩ ?_
  rintro W ⟨hx, hs⟩
  refine (mxOf_any e.key e.ctr e.node (HL.out.ext hx)).mono ?_
  rintro r W2 ⟨rfl, hx2⟩
  rw [show lane0 (wordsK e.key e.ctr e.node) = y0 from HY0.out, show lane1 (wordsK e.key e.ctr e.node) = y1 from HY1.out]
  have HX2 := hid_mk (Ext.trans _ _ _ hx hx2)
  have HT := hid_mk (hs.ext hx2)
  have s0 := HT.out.c0
  have s1 := HT.out.c1
  have s2 := HT.out.c2
  have f0 := HT.out.f0
  have f1 := HT.out.f1
  have f2 := HT.out.f2
  have sl := cell_lt s0
  clear hx hs hx2
  go_wp2
  refine bodyPost_ret (v := .agg #[.int .i64 1, .int .u64 y0, .int .u64 y1]) (by unfold results; rw [Tryd.results74]; go_simp; first | done | rfl) rfl ⟨rfl, ?_⟩
  exact Xl.ext HX2.out (L := [w.heap.size + 1]) ((((Xl.refl W2).set (by simp)).set (by simp)).set (by simp)) (by simp)
theorem tlJoin_any {w : World} (n a b m c d : Int) : Calls Tryd.prog 52 #[.agg #[.int .i64 n, .int .u64 a, .int .u64 b], .agg #[.int .i64 m, .int .u64 c, .int .u64 d]] w fun r w' => r = .returned (.agg #[.int .i64 (IntKind.i64.wrap (n + m)), .int .u64 (IntKind.u64.wrap (a + c)), .int .u64 (IntKind.u64.wrap (b + d))]) ∧ Ext w w' := by
  go_enter Tryd.func52, Tryd.ntmps52
  go_wp2_with fail
  refine gen_codeK (fun W => Ext w W ∧ TalAt W w.heap.size n a b ∧ TalAt W (w.heap.size + 1) m c d ∧ TalAt W (w.heap.size + 1 + 1) 0 0 0) ⟨by (repeat (first | exact Ext.refl _ | apply Ext.drew_left | apply Ext.drew | apply Ext.alloc)), ⟨?_⟩, ⟨?_⟩, ⟨?_⟩⟩ ?_
  · refine Eq.trans ?_ (heap_alloc_new w (.cells #[.int .i64 n, .int .u64 a, .int .u64 b] 32))
    exact (Below.heap_alloc _ _ _ (by simp; omega)).trans (Below.heap_alloc _ _ _ (by simp))
  · have h := heap_alloc_new (w.alloc (.cells #[.int .i64 n, .int .u64 a, .int .u64 b] 32)) (.cells #[.int .i64 m, .int .u64 c, .int .u64 d] 32)
    rw [World.size_alloc] at h
    exact (Below.heap_alloc _ _ _ (by simp)).trans h
  · have h := heap_alloc_new ((w.alloc (.cells #[.int .i64 n, .int .u64 a, .int .u64 b] 32)).alloc (.cells #[.int .i64 m, .int .u64 c, .int .u64 d] 32)) (.cells #[.int .i64 0, .int .u64 0, .int .u64 0] 32)
    rw [World.size_alloc, World.size_alloc] at h
    exact h
  rintro W ⟨hx, h1, h2, h3⟩
  have HX := hid_mk hx
  have HT := hid_mk h3
  have a0 := h1.c0
  have a1 := h1.c1
  have a2 := h1.c2
  have b0 := h2.c0
  have b1 := h2.c1
  have b2 := h2.c2
  have al := cell_lt a0
  have bl := cell_lt b0
  have hx5 := Ext.refl W
  have hc5 := hx5.hc; have hl5 := hx5.hl; have he5 := hx5.hle; have hn5 := hx5.hne; replace hx5 := hid_mk hx5
  clear hx h1 h2 h3
  have s0 := HT.out.c0
  have s1 := HT.out.c1
  have s2 := HT.out.c2
  have f0 := HT.out.f0
  have f1 := HT.out.f1
  have f2 := HT.out.f2
  have sl := cell_lt s0
  refine wp_region_held_below (fun i => i != 11) (.quiet 0 (.quiet 1 (.quiet 2 (.quiet 3 (.quiet 4 (.quiet 5 (.quiet 6 (.quiet 7 (.quiet 8 (.alt 9 (.quiet 10 (.alt 11 .done .stop)) .stop)))))))))) (by kernel_rfl) (by kernel_rfl) (by intro c a w d v h; cases d <;> exact h) (fun ops HO => ?_)
  refine plan_read _ (hi_of HO rfl) rfl (fun w' hE => by have hcE := (Ext.trans _ _ _ (by (repeat (first | exact hx5.out | apply Ext.drew | apply Ext.alloc))) hE).hc; (repeat (with_reducible replace hE := Ext.unD hE)); have hcF := hE.hc; clear hE; go_simp; rfl) ?_
  simp only [Act.put, List.setIfInBounds_toArray, List.set_cons_succ, List.set_cons_zero]
  refine plan_read _ (hi_of HO rfl) rfl (fun w' hE => by have hcE := (Ext.trans _ _ _ (by (repeat (first | exact hx5.out | apply Ext.drew | apply Ext.alloc))) hE).hc; (repeat (with_reducible replace hE := Ext.unD hE)); have hcF := hE.hc; clear hE; go_simp; rfl) ?_
  simp only [Act.put, List.setIfInBounds_toArray, List.set_cons_succ, List.set_cons_zero]
  refine plan_read _ (hi_of HO rfl) rfl (fun w' hE => by have hcE := (Ext.trans _ _ _ (by (repeat (first | exact hx5.out | apply Ext.drew | apply Ext.alloc))) hE).hc; (repeat (with_reducible replace hE := Ext.unD hE)); have hcF := hE.hc; clear hE; go_simp; rfl) ?_
  simp only [Act.put, List.setIfInBounds_toArray, List.set_cons_succ, List.set_cons_zero]
  refine plan_read _ (hi_of HO rfl) rfl (fun w' hE => by have hcE := (Ext.trans _ _ _ (by (repeat (first | exact hx5.out | apply Ext.drew | apply Ext.alloc))) hE).hc; (repeat (with_reducible replace hE := Ext.unD hE)); have hcF := hE.hc; clear hE; go_simp; rfl) ?_
  simp only [Act.put, List.setIfInBounds_toArray, List.set_cons_succ, List.set_cons_zero]
  refine plan_read _ (hi_of HO rfl) rfl (fun w' hE => by have hcE := (Ext.trans _ _ _ (by (repeat (first | exact hx5.out | apply Ext.drew | apply Ext.alloc))) hE).hc; (repeat (with_reducible replace hE := Ext.unD hE)); have hcF := hE.hc; clear hE; go_simp; rfl) ?_
  simp only [Act.put, List.setIfInBounds_toArray, List.set_cons_succ, List.set_cons_zero]
  refine plan_read _ (hi_of HO rfl) rfl (fun w' hE => by have hcE := (Ext.trans _ _ _ (by (repeat (first | exact hx5.out | apply Ext.drew | apply Ext.alloc))) hE).hc; (repeat (with_reducible replace hE := Ext.unD hE)); have hcF := hE.hc; clear hE; go_simp; rfl) ?_
  simp only [Act.put, List.setIfInBounds_toArray, List.set_cons_succ, List.set_cons_zero]
  refine plan_read _ (hi_of HO rfl) rfl (fun w' hE => by have hcE := (Ext.trans _ _ _ (by (repeat (first | exact hx5.out | apply Ext.drew | apply Ext.alloc))) hE).hc; (repeat (with_reducible replace hE := Ext.unD hE)); have hcF := hE.hc; clear hE; go_simp; rfl) ?_
  simp only [Act.put, List.setIfInBounds_toArray, List.set_cons_succ, List.set_cons_zero]
  refine plan_read _ (hi_of HO rfl) rfl (fun w' hE => by have hcE := (Ext.trans _ _ _ (by (repeat (first | exact hx5.out | apply Ext.drew | apply Ext.alloc))) hE).hc; (repeat (with_reducible replace hE := Ext.unD hE)); have hcF := hE.hc; clear hE; go_simp; rfl) ?_
  simp only [Act.put, List.setIfInBounds_toArray, List.set_cons_succ, List.set_cons_zero]
  refine plan_read _ (hi_of HO rfl) rfl (fun w' hE => by have hcE := (Ext.trans _ _ _ (by (repeat (first | exact hx5.out | apply Ext.drew | apply Ext.alloc))) hE).hc; (repeat (with_reducible replace hE := Ext.unD hE)); have hcF := hE.hc; clear hE; go_simp; rfl) ?_
  simp only [Act.put, List.setIfInBounds_toArray, List.set_cons_succ, List.set_cons_zero]
  refine plan_call1 en_mxAdd (hi_of HO rfl) rfl rfl (by go_simp; rfl) (by exact (mxAdd_any _ _ _ _ _)) ?_
  rintro e v101 ⟨rfl, hx101⟩
  refine ⟨_, rfl, fun _ => hx101, ?_⟩
  have hy101 := hid_mk (by first | (with_reducible exact Ext.unD hx101) | exact hx101 : Ext _ v101)
  replace hx101 := Ext.trans _ _ _ (by (repeat (first | exact hx5.out | apply Ext.drew | apply Ext.alloc))) hx101
  clear hc5 hl5 he5 hn5
  have hc101 := hx101.hc; have hl101 := hx101.hl; have he101 := hx101.hle; have hn101 := hx101.hne; replace hx101 := hid_mk hx101
  simp only [Act.put, List.setIfInBounds_toArray, List.set_cons_succ, List.set_cons_zero]
  replace HT := hid_mk (HT.out.ext hy101.out)
  replace HX := hid_mk (Ext.trans _ _ _ HX.out hy101.out)
  refine plan_read _ (hi_of HO rfl) rfl (fun w' hE => by have hcE := (Ext.trans _ _ _ (by (repeat (first | exact hx101.out | apply Ext.drew | apply Ext.alloc))) hE).hc; (repeat (with_reducible replace hE := Ext.unD hE)); have hcF := hE.hc; clear hE; go_simp; rfl) ?_
  simp only [Act.put, List.setIfInBounds_toArray, List.set_cons_succ, List.set_cons_zero]
  clear s0 s1 s2 f0 f1 f2 sl
  have s0 := HT.out.c0
  have s1 := HT.out.c1
  have s2 := HT.out.c2
  have f0 := HT.out.f0
  have f1 := HT.out.f1
  have f2 := HT.out.f2
  have sl := cell_lt s0
  refine plan_loud1 (hi_of HO rfl) rfl ?_
  go_simp
  refine plan_done ?fin102
  go_wp2
  refine bodyPost_ret (v := .agg #[.int .i64 (IntKind.i64.wrap (n + m)), .int .u64 (IntKind.u64.wrap (a + c)), .int .u64 (IntKind.u64.wrap (b + d))]) (by unfold results; rw [Tryd.results52]; go_simp; first | done | rfl) rfl ⟨rfl, ?_⟩
  exact Xl.ext HX.out (L := [w.heap.size + 1 + 1]) ((((Xl.refl _).set (by simp)).set (by simp)).set (by simp)) (by simp; omega)
/-- So many joins were counted by a meter. -/
structure CountsM (mb : Nat) (n : Nat) (w : World) : Prop where
  b : w.heap[mb]? = some (.cells #[.int .i64 (wrap64 (n : Int))] 177 (0, 0))
theorem wrap64_twiceM (n : Int) : wrap64 (wrap64 n + 1) = wrap64 (n + 1) := by unfold wrap64; omega
theorem mjoin_any (a b : Tal3) (w : World) (mb n : Nat) (h : CountsM mb n w) :
    Calls Tryd.prog 71 #[.pointer (some ⟨mb, 0, none⟩), encS4 a, encS4 b] w fun e w' => e = .returned (encS4 (J4 a b)) ∧ Xt (some mb) w w' ∧ CountsM mb (n + 1) w' := by
  obtain ⟨x, hx⟩ : ∃ x, wrap64 (n : Int) = x := ⟨_, rfl⟩
  obtain ⟨y, hy⟩ : ∃ y, wrap64 (x + 1) = y := ⟨_, rfl⟩
  have HXY := hid_mk (show wrap64 ((n + 1 : Nat) : Int) = y by rw [← hy, ← hx, wrap64_twiceM]; rfl)
  obtain ⟨hb⟩ := h
  rw [hx] at hb
  have HB := hid_mk hb
  have h0 : w.cell? ⟨mb, 0, none⟩ = some (.int .i64 x) := by simp [World.cell?, hb]
  have h1 : w.frozen? ⟨mb, 0, none⟩ = false := by simp [World.frozen?, hb]
  have hml := cell_lt h0
  clear hx hb
  have hj1 : ¬ mb = w.heap.size := by omega
  have hj2 : ¬ mb = w.heap.size + 1 := by omega
  have hj3 : ¬ mb = w.heap.size + 1 + 1 := by omega
  have hj4 : mb < w.heap.size + 1 := by omega
  have hj5 : mb < w.heap.size + 1 + 1 := by omega
  have hj6 : mb < w.heap.size + 1 + 1 + 1 := by omega
  go_enter Tryd.func71, Tryd.ntmps71
  go_wp2_with fail
  obtain ⟨a1, a2, a3⟩ := a
  obtain ⟨b1, b2, b3⟩ := b
  dsimp only
  have hS : (w.setCell ⟨mb, 0, none⟩ (.int .i64 y)).heap[mb]? = some (.cells #[.int .i64 y] 177 (0, 0)) := by rw [heap_setCell_same _ _ _ _ _ _ HB.out]; rfl
  have hZ : (w.setCell ⟨mb, 0, none⟩ (.int .i64 y)).heap.size = w.heap.size := by simp [World.setCell]
  have hX : Xt (some mb) w (w.setCell ⟨mb, 0, none⟩ (.int .i64 y)) := Xt.setAt
  generalize w.setCell ⟨mb, 0, none⟩ (.int .i64 y) = W1 at hS hZ hX ⊢
  refine gen_callsK (fun W => Xt (some mb) w W ∧ CountsM mb (n + 1) W ∧ TalAt W (w.heap.size + 1 + 1) 0 0 0) ⟨((hX.alloc _).alloc _).alloc _, ⟨?_⟩, ⟨?_⟩⟩ ?_
  · rw [HXY.out]
    have hE3 : Ext W1 (((W1.alloc (.cells #[.int .i64 a1, .int .u64 a2, .int .u64 a3] 32)).alloc (.cells #[.int .i64 b1, .int .u64 b2, .int .u64 b3] 32)).alloc (.cells #[.int .i64 0, .int .u64 0, .int .u64 0] 32)) := by (repeat (first | exact Ext.refl _ | apply Ext.drew_left | apply Ext.drew | apply Ext.alloc))
    exact (hE3.below.block mb (by omega)).trans hS
  · have h := heap_alloc_new ((W1.alloc (.cells #[.int .i64 a1, .int .u64 a2, .int .u64 a3] 32)).alloc (.cells #[.int .i64 b1, .int .u64 b2, .int .u64 b3] 32)) (.cells #[.int .i64 0, .int .u64 0, .int .u64 0] 32)
    rw [World.size_alloc, World.size_alloc, hZ] at h
    exact h
  rintro W ⟨hx, hc, ht⟩
  have HX := hid_mk hx
  have HC := hid_mk hc
  have HT := hid_mk ht
  refine (tlJoin_any _ _ _ _ _ _).mono ?_
  rintro r W2 ⟨rfl, hx2⟩
  replace HX := hid_mk (Xt.trans _ _ _ HX.out (Xt.of hx2))
  replace HC := hid_mk (show CountsM mb (n + 1) W2 from ⟨(hx2.below.block _ (Array.getElem?_eq_some_iff.1 hc.b).1).trans hc.b⟩)
  replace HT := hid_mk (ht.ext hx2)
  have hj9 : mb ≠ w.heap.size + 1 + 1 := hj3
  clear hx hc ht hx2 h0 h1 hml hS hZ hX hj1 hj2 hj3 hj4 hj5 hj6
  have HJ9 := hid_mk hj9
  have s0 := HT.out.c0
  have s1 := HT.out.c1
  have s2 := HT.out.c2
  have f0 := HT.out.f0
  have f1 := HT.out.f1
  have f2 := HT.out.f2
  have sl := cell_lt s0
  go_wp2
  refine bodyPost_ret (v := .agg #[.int .i64 (wrap64 (a1 + b1)), .int .u64 (IntKind.u64.wrap (a2 + b2)), .int .u64 (IntKind.u64.wrap (a3 + b3))]) (by unfold results; rw [Tryd.results71]; go_simp; first | done | rfl) rfl ⟨by simp only [J4, wrapI_eq], ?_, ?_⟩
  · exact ((HX.out.set (by omega)).set (by omega)).set (by omega)
  · have hx3 : Xt (some (w.heap.size + 1 + 1)) W2 (((W2.setCell ⟨w.heap.size + 1 + 1, 0, none⟩ (.int .i64 (wrap64 (a1 + b1)))).setCell ⟨w.heap.size + 1 + 1, 1, none⟩ (.int .u64 (IntKind.u64.wrap (a2 + b2)))).setCell ⟨w.heap.size + 1 + 1, 2, none⟩ (.int .u64 (IntKind.u64.wrap (a3 + b3)))) :=
      Xt.trans _ _ _ (Xt.trans _ _ _ Xt.setAt Xt.setAt) Xt.setAt
    exact ⟨(hx3.block mb (Array.getElem?_eq_some_iff.1 HC.out.b).1 (by intro e; cases e; exact HJ9.out rfl)).trans HC.out.b⟩
theorem joinM (mb : Nat) : JoinOP Tryd.prog encS4 (some mb) (CountsM mb) (fun _ => 0) 0 J4 71 #[.pointer (some ⟨mb, 0, none⟩)] where
  enters := en_tlMJoin
  call a b w n hk _ := mjoin_any a b w mb n hk
  low n w hk s hs := by cases hs; exact (Array.getElem?_eq_some_iff.1 hk.b).1
  keep n w w' hk h := ⟨(h mb rfl).trans hk.b⟩
  wtJ _ _ := Nat.le_refl _
theorem newMeter_any (w : World) : Calls Tryd.prog 69 #[] w fun e w' => e = .returned (.pointer (some ⟨w.heap.size, 0, none⟩)) ∧ CountsM w.heap.size 0 w' ∧ w'.heap.size = w.heap.size + 1 ∧ Ext w w' := by
  go_enter Tryd.func69, Tryd.ntmps69
  go_wp2
  go_ret
  exact ⟨rfl, ⟨by rw [show wrap64 ((0 : Nat) : Int) = 0 from w64in (by omega)]; exact heap_alloc_new w _⟩, by simp, by (repeat (first | exact Ext.refl _ | apply Ext.drew_left | apply Ext.drew | apply Ext.alloc))⟩
end Go.Proofs.YtokcgnbjkbhmiaaDoor
namespace Go.Proofs.YtokcgnbjkbhmiaaDoor
open Go.RowKit Go.Lib
set_option maxHeartbeats 4000000
set_option maxRecDepth 100000
set_option linter.unusedSimpArgs false
set_option linter.unusedVariables false

theorem Xl.rd {L : List Nat} {w w' : World} (hx : Xl L w w') {b o : Nat} {v : Value} (h : w.cell? ⟨b, o, none⟩ = some v) (hn : b ∉ L) : w'.cell? ⟨b, o, none⟩ = some v := (hx.cell (cell_lt h) hn).trans h
theorem Xl.more {L M : List Nat} {w w' : World} (hx : Xl L w w') (hM : ∀ k, k ∈ L → k ∈ M) : Xl M w w' := ⟨hx.os, hx.tape, hx.output, hx.size, fun k hk hn => hx.block k hk fun h => hn (hM k h)⟩
theorem Xl.alloc {L : List Nat} {w w' : World} (h : Xl L w w') (o : Obj) : Xl L w (w'.alloc o) := Xl.trans _ _ _ h (Xl.of ((Ext.refl _).alloc o))
theorem Xl.drew {L : List Nat} {w w' : World} (h : Xl L w w') : Xl L w w'.drew := ⟨h.os, h.tape, h.output, h.size, h.block⟩
theorem NodeAt4.xl {L : List Nat} {w w' : World} {b : Nat} {k : ByteArray} {v : V4} {s sm : S4} {pl pr : Value} {n h : Int} (q : NodeAt4 w b k v s sm pl pr n h) (hx : Xl L w w') (hn : b ∉ L) : NodeAt4 w' b k v s sm pl pr n h :=
  ⟨hx.rd q.c0 hn, hx.rd q.c1 hn, hx.rd q.c2 hn, hx.rd q.c3 hn, hx.rd q.c4 hn, hx.rd q.c5 hn, hx.rd q.c6 hn, hx.rd q.c7 hn, hx.rd q.c8 hn, hx.rd q.c9 hn, hx.rd q.c10 hn, hx.rd q.c11 hn, hx.rd q.c12 hn, hx.rd q.c13 hn, hx.rd q.c14 hn, hx.rd q.c15 hn⟩
theorem TreeW4.xl {L : List Nat} {w w' : World} {b : Nat} {z : S4} {f : FuncId} {caps : Array Value} {rv : Value} (q : TreeW4 w b z f caps rv) (hx : Xl L w w') (hn : b ∉ L) : TreeW4 w' b z f caps rv :=
  ⟨⟨hx.rd q.at_.c0 hn, hx.rd q.at_.c1 hn, hx.rd q.at_.c2 hn, hx.rd q.at_.c3 hn, hx.rd q.at_.c4 hn⟩, (hx.hf (cell_lt q.at_.c0) hn).trans q.fz⟩
/-- No node lies here. -/
def NoNode (w : World) (b : Nat) : Prop := ∀ (k : ByteArray) (v : V4) (s sm : S4) (pl pr : Value) (n h : Int), ¬ NodeAt4 w b k v s sm pl pr n h
theorem IsTree4.awayL {L : List Nat} {Sp : Option Nat} {J : S4 → S4 → S4} {z : S4} {w w' : World} (hq : ∀ b, b ∈ L → NoNode w b) (hx : Xl L w w') : ∀ {pv : Value} {T : T4}, IsTree4 Sp J z w pv T → IsTree4 Sp J z w' pv T
  | _, .nil, h => h
  | _, .node l k v s r, ⟨b, pl, pr, h1, h2, h3, h4, h5⟩ => ⟨b, pl, pr, h1, h2, h3.xl hx fun e => hq b e _ _ _ _ _ _ _ _ h3, h4.awayL hq hx, h5.awayL hq hx⟩
/-- A store in memory: its own cells, its meter, its tree. -/
structure StW (w : World) (sb mb tb n : Nat) (s : St) : Prop where
  b : w.heap[sb]? = some (.cells #[.int .i64 s.id, .int .i64 s.time, .pointer (some ⟨mb, 0, none⟩), .pointer (some ⟨tb, 0, none⟩)] 121 (0, 0))
  m : CountsM mb n w
  t : ∃ pv T, TreeW4 w tb (0, 0, 0) 71 #[.pointer (some ⟨mb, 0, none⟩)] pv ∧ IsTree4 (some mb) J4 (0, 0, 0) w pv T ∧ T.rows = rowsE s.l ∧ T.Even
  sm : sb ≠ mb
  st : sb ≠ tb
  mt : mb ≠ tb
  srt : SrtE s.l
  len : s.l.length ≤ 256
namespace StW
variable {w w' : World} {sb mb tb n : Nat} {s : St}
theorem c0 (h : StW w sb mb tb n s) : w.cell? ⟨sb, 0, none⟩ = some (.int .i64 s.id) := by simp [World.cell?, h.b]
theorem c1 (h : StW w sb mb tb n s) : w.cell? ⟨sb, 1, none⟩ = some (.int .i64 s.time) := by simp [World.cell?, h.b]
theorem c2 (h : StW w sb mb tb n s) : w.cell? ⟨sb, 2, none⟩ = some (.pointer (some ⟨mb, 0, none⟩)) := by simp [World.cell?, h.b]
theorem c3 (h : StW w sb mb tb n s) : w.cell? ⟨sb, 3, none⟩ = some (.pointer (some ⟨tb, 0, none⟩)) := by simp [World.cell?, h.b]
theorem f (h : StW w sb mb tb n s) (o : Nat) : w.frozen? ⟨sb, o, none⟩ = false := by simp [World.frozen?, h.b]
theorem lt (h : StW w sb mb tb n s) : sb < w.heap.size := (Array.getElem?_eq_some_iff.1 h.b).1
theorem mlt (h : StW w sb mb tb n s) : mb < w.heap.size := (Array.getElem?_eq_some_iff.1 h.m.b).1
theorem tlt (h : StW w sb mb tb n s) : tb < w.heap.size := by obtain ⟨pv, T, h1, -⟩ := h.t; exact cell_lt h1.at_.c0
theorem noS (h : StW w sb mb tb n s) : NoNode w sb := fun k v s sm pl pr n' h' q => by have h1 := q.c4; simp [World.cell?, h.b] at h1
theorem noM (h : StW w sb mb tb n s) : NoNode w mb := fun k v s sm pl pr n' h' q => by have h1 := q.c1; simp [World.cell?, h.m.b] at h1
theorem noT (h : StW w sb mb tb n s) : NoNode w tb := fun k v s sm pl pr n' h' q => by obtain ⟨pv, T, h1, -⟩ := h.t; exact h1.at_.no q
theorem no (h : StW w sb mb tb n s) : ∀ b, b ∈ [sb, mb, tb] → NoNode w b := fun b hb => by
  simp only [List.mem_cons, List.not_mem_nil, or_false] at hb
  rcases hb with rfl | rfl | rfl
  · exact h.noS
  · exact h.noM
  · exact h.noT
theorem away {L : List Nat} (h : StW w sb mb tb n s) (hx : Xl L w w') (h1 : sb ∉ L) (h2 : mb ∉ L) (h3 : tb ∉ L) (hq : ∀ b, b ∈ L → NoNode w b) : StW w' sb mb tb n s := by
  obtain ⟨pv, T, t1, t2, t3, t4⟩ := h.t
  exact ⟨(hx.block sb h.lt h1).trans h.b, ⟨(hx.block mb h.mlt h2).trans h.m.b⟩, ⟨pv, T, t1.xl hx h3, t2.awayL hq hx, t3, t4⟩, h.sm, h.st, h.mt, h.srt, h.len⟩
theorem ext (h : StW w sb mb tb n s) (hx : Ext w w') : StW w' sb mb tb n s := h.away (Xl.of hx : Xl [] w w') (by simp) (by simp) (by simp) (by simp)
theorem lanes (h : StW w sb mb tb n s) (hl : LanesAt w) : 0 ∉ [sb, mb, tb] := by
  obtain ⟨pv, T, t1, -⟩ := h.t
  intro hb
  have h0 := hl.c0
  simp only [List.mem_cons, List.not_mem_nil, or_false] at hb
  rcases hb with rfl | rfl | rfl
  · rw [h.c0] at h0; simp at h0
  · simp [World.cell?, h.m.b] at h0
  · rw [t1.at_.c0] at h0; simp at h0
theorem clock (h : StW w sb mb tb n s) (t : Int) : StW (w.setCell ⟨sb, 1, none⟩ (.int .i64 t)) sb mb tb n ⟨s.id, t, s.l⟩ := by
  have hx : Xl [sb] w (w.setCell ⟨sb, 1, none⟩ (.int .i64 t)) := (Xl.refl w).set (by simp)
  obtain ⟨pv, T, t1, t2, t3, t4⟩ := h.t
  have hq : ∀ b, b ∈ [sb] → NoNode w b := fun b hb => by rw [List.mem_singleton.1 hb]; exact h.noS
  exact ⟨by rw [heap_setCell_same _ _ _ _ _ _ h.b]; rfl, ⟨(hx.block mb h.mlt (by simpa using h.sm.symm)).trans h.m.b⟩, ⟨pv, T, t1.xl hx (by simpa using h.st.symm), t2.awayL hq hx, t3, t4⟩, h.sm, h.st, h.mt, h.srt, h.len⟩
end StW
theorem LanesAt.xl {L : List Nat} {w w' : World} (h : LanesAt w) (hx : Xl L w w') (hn : 0 ∉ L) : LanesAt w' := ⟨hx.rd h.c0 hn, hx.rd h.c1 hn, hx.rd h.c2 hn, hx.rd h.c3 hn, hx.rd h.c4 hn, hx.rd h.c5 hn⟩
/-- Two stores that have no block in common. -/
def Apart (sb mb tb sb' mb' tb' : Nat) : Prop := (∀ b, b ∈ [sb, mb, tb] → b ∉ [sb', mb', tb'])
theorem StW.beside {w w' : World} {sb mb tb n sb' mb' tb' n' : Nat} {s s' : St} (h : StW w sb mb tb n s) (k : StW w sb' mb' tb' n' s') (ha : Apart sb mb tb sb' mb' tb') (hx : Xl [sb', mb', tb'] w w') : StW w' sb mb tb n s :=
  h.away hx (ha sb (by simp)) (ha mb (by simp)) (ha tb (by simp)) k.no
/-- So many joins more, at most. -/
def Cost (m n n' : Nat) : Prop := n ≤ n' ∧ ∃ h, 2 ^ (h / 2) ≤ m + 1 ∧ n' ≤ n + (6 * h + 2)
theorem Cost.zero (m n : Nat) : Cost m n n := ⟨Nat.le_refl _, 0, by simp, by omega⟩
section
variable {w : World} {sb mb tb n : Nat} {s : St}
theorem rankS (k : ByteArray) (h : StW w sb mb tb n s) : Calls Tryd.prog 107 #[.pointer (some ⟨tb, 0, none⟩), .string k] w fun e w' => e = .returned (.int .i64 ((cntE k s.l : Nat) : Int)) ∧ w = w' := by
  obtain ⟨pv, T, t1, t2, t3, t4⟩ := h.t
  rw [← te_rank t3 h.srt k]
  exact rank4_any k t1.at_ t2 (by have := te_size t3; have := h.len; omega)
theorem lenS (h : StW w sb mb tb n s) : Calls Tryd.prog 60 #[.pointer (some ⟨tb, 0, none⟩)] w fun e w' => e = .returned (.int .i64 ((s.l.length : Nat) : Int)) ∧ w = w' := by
  obtain ⟨pv, T, t1, t2, t3, t4⟩ := h.t
  rw [← te_size t3]
  exact len4_any t1.at_ t2
theorem getS (k : ByteArray) (h : StW w sb mb tb n s) : Calls Tryd.prog 63 #[.pointer (some ⟨tb, 0, none⟩), .string k] w fun e w' => e = .returned (.tuple #[encV4 ((fndE k s.l).getD zV4), .bool (fndE k s.l).isSome]) ∧ Ext w w' := by
  obtain ⟨pv, T, t1, t2, t3, t4⟩ := h.t
  rw [← te_get t3 h.srt k]
  exact get4_any k t1.at_ t2
theorem wtE : ∀ T : T4, T.wt (fun _ => 0) = 0
  | .nil => rfl
  | .node l k v s r => by simp [Tr.wt, wtE l, wtE r]
theorem putS (e : Ent) (h : StW w sb mb tb n s) (hr : roomE e.key s.l = true) : Calls Tryd.prog 73 #[.pointer (some ⟨tb, 0, none⟩), .string e.key, encV4 e, encS4 (tal1 e)] w fun r w' =>
    r = .returned (.tuple #[encV4 ((fndE e.key s.l).getD zV4), .bool (fndE e.key s.l).isSome]) ∧ Xl [tb, mb] w w' ∧ ∃ n', StW w' sb mb tb n' ⟨s.id, s.time, insE e s.l⟩ ∧ Cost s.l.length n n' := by
  obtain ⟨pv, T, t1, t2, t3, t4⟩ := h.t
  have hsz := te_size t3
  have hln := h.len
  refine (tput4_any (joinM mb) (n := n) (k := e.key) (v := e) (s := tal1 e) t1 (by simpa using h.mt) t2 h.m (by omega) (by rw [wtE]; simp)).mono ?_
  rintro r w' ⟨rfl, pv', j, u1, u2, u3, u4, u5⟩
  rw [te_get t3 h.srt]
  refine ⟨rfl, u3, n + j, ⟨?_, u4, ⟨pv', _, u1, u2, te_put t3 h.srt e, (Tr.put_even _ _ _ T t4).1⟩, h.sm, h.st, h.mt, insE_srt h.srt, ?_⟩, ⟨by omega, T.high, te_cost t3 t4, by omega⟩⟩
  · exact (u3.block sb h.lt (by simp [h.sm, h.st])).trans h.b
  · show (insE e s.l).length ≤ 256
    rw [insE_len h.srt]
    unfold roomE at hr
    split
    · exact hln
    · rename_i h1
      have h2 : decide (s.l.length < 256) = true := by simpa [h1] using hr
      have := of_decide_eq_true h2
      omega
end
end Go.Proofs.YtokcgnbjkbhmiaaDoor
namespace Go.Proofs.YtokcgnbjkbhmiaaDoor
open Go.RowKit Go.Lib
set_option maxHeartbeats 4000000
set_option maxRecDepth 100000
set_option linter.unusedSimpArgs false
set_option linter.unusedVariables false
theorem en_iNext : Enters Tryd.prog 108 := ⟨_, Tryd.func108, by kernel_rfl, rfl⟩
theorem en_stNode : Enters Tryd.prog 23 := ⟨_, Tryd.func23, by kernel_rfl, rfl⟩
theorem en_stClock : Enters Tryd.prog 24 := ⟨_, Tryd.func24, by kernel_rfl, rfl⟩
theorem en_stLen : Enters Tryd.prog 25 := ⟨_, Tryd.func25, by kernel_rfl, rfl⟩
theorem en_stFull0 : Enters Tryd.prog 62 := ⟨_, Tryd.func62, by kernel_rfl, rfl⟩
theorem en_stGet : Enters Tryd.prog 34 := ⟨_, Tryd.func34, by kernel_rfl, rfl⟩
theorem iNext_any (t i : Int) (ht : 0 ≤ t ∧ t ≤ 1099511627776) (hi : 0 ≤ i ∧ i < 8) (w : World) :
    Calls Tryd.prog 108 #[.int .i64 t, .int .i64 i] w fun e w' => e = .returned (.tuple #[.agg #[.int .i64 (if t = 1099511627776 then 0 else t + 1), .int .i64 (if t = 1099511627776 then 0 else i)], .int .i64 (if t = 1099511627776 then 33 else 0)]) ∧ Ext w w' := by
  have h1 : ¬ i < 0 := by omega
  have h2 : ¬ (8 : Int) ≤ i := by omega
  have h3 : ¬ t < 0 := by omega
  have h4 : ¬ (1099511627776 : Int) < t := by omega
  by_cases h5 : t = 1099511627776
  · subst h5
    clear h1 h2 h3 h4 ht
    have h1 : ¬ i < 0 := by omega
    have h2 : ¬ (8 : Int) ≤ i := by omega
    go_enter Tryd.func108, Tryd.ntmps108
    go_wp2
    refine bodyPost_ret (v := .tuple #[.agg #[.int .i64 0, .int .i64 0], .int .i64 33]) (by unfold results; rw [Tryd.results108]; go_simp; first | done | rfl | exact ⟨rfl, rfl, rfl, rfl, rfl⟩) rfl ⟨rfl, by (repeat (first | exact Ext.refl _ | apply Ext.drew_left | apply Ext.drew | apply Ext.alloc | (refine Ext.setT1 ?_ (by simp))))⟩
  · rw [if_neg h5, if_neg h5, if_neg h5]
    have h6 : wrap64 (t + 1) = t + 1 := w64in (by omega)
    have H6 := hid_mk h6
    clear h6
    go_enter Tryd.func108, Tryd.ntmps108
    go_wp2
    refine bodyPost_ret (v := .tuple #[.agg #[.int .i64 (t + 1), .int .i64 i], .int .i64 0]) (by unfold results; rw [Tryd.results108]; have h6 := H6.out; go_simp; first | done | rfl | (rw [h6])) rfl ⟨rfl, by (repeat (first | exact Ext.refl _ | apply Ext.drew_left | apply Ext.drew | apply Ext.alloc | (refine Ext.setT1 ?_ (by simp))))⟩
section
variable {w : World} {sb mb tb n : Nat} {s : St}
theorem stNode_any (h : StW w sb mb tb n s) : Calls Tryd.prog 23 #[.pointer (some ⟨sb, 0, none⟩)] w fun e w' => e = .returned (.int .i64 s.id) ∧ w = w' := by
  have c0 := h.c0
  clear h
  go_enter Tryd.func23, Tryd.ntmps23
  go_wp2
  go_ret
  exact ⟨rfl, rfl⟩
theorem stClock_any (h : StW w sb mb tb n s) : Calls Tryd.prog 24 #[.pointer (some ⟨sb, 0, none⟩)] w fun e w' => e = .returned (.int .i64 s.time) ∧ w = w' := by
  have c1 := h.c1
  clear h
  go_enter Tryd.func24, Tryd.ntmps24
  go_wp2
  go_ret
  exact ⟨rfl, rfl⟩
theorem stLen_any (h : StW w sb mb tb n s) : Calls Tryd.prog 25 #[.pointer (some ⟨sb, 0, none⟩)] w fun e w' => e = .returned (.int .i64 (s.l.length : Int)) ∧ w = w' := by
  have c3 := h.c3
  obtain ⟨pv, T, hT, hI, hR, hE⟩ := h.t
  have HN := hid_mk (te_size hR)
  have HT := hid_mk hT
  have HI := hid_mk hI
  clear h hT hI hR hE
  go_enter Tryd.func25, Tryd.ntmps25
  go_wp2_with fail
  refine (len4_any HT.out.at_ HI.out).mono ?_
  rintro e w1 ⟨rfl, rfl⟩
  rw [HN.out]
  go_wp2
  go_ret
  exact ⟨rfl, rfl⟩
theorem stFull_any (k : ByteArray) (h : StW w sb mb tb n s) : Calls Tryd.prog 62 #[.pointer (some ⟨sb, 0, none⟩), .string k] w fun e w' => e = .returned (.bool (!roomE k s.l)) ∧ Ext w w' := by
  have HS := hid_mk h
  have c3 := h.c3
  have hsl := h.lt
  obtain ⟨pv, T, hT, hI, hR, hE⟩ := h.t
  have HG := hid_mk (te_get hR h.srt k)
  have HN := hid_mk (te_size hR)
  have HT := hid_mk hT
  have HI := hid_mk hI
  clear h hT hI hR hE
  go_enter Tryd.func62, Tryd.ntmps62
  go_wp2_with fail
  refine (get4_any k HT.out.at_ HI.out).mono ?_
  rintro e w1 ⟨rfl, hx1⟩
  rw [HG.out]
  have HX1 := hid_mk hx1
  replace c3 := cell_ext hx1 c3
  replace hsl := cell_lt c3
  clear hx1
  cases hf : fndE k s.l with
  | some x =>
    simp only [Option.getD_some, Option.isSome_some]
    go_wp2
    go_ret
    exact ⟨by simp [roomE, hf], Ext.trans _ _ _ HX1.out (by (repeat (first | exact Ext.refl _ | apply Ext.drew_left | apply Ext.drew | apply Ext.alloc | (refine Ext.setT1 ?_ (by simp)))))⟩
  | none =>
    simp only [Option.getD_none, Option.isSome_none]
    go_wp2_with fail
    refine gen_callsT (fun W => Ext w1 W) (by (repeat (first | exact Ext.refl _ | apply Ext.drew_left | apply Ext.drew | apply Ext.alloc | (refine Ext.setT1 ?_ (by simp))))) ?_
    intro W hx2
    refine (len4_any (HT.out.at_.xt (Xt.of (Ext.trans _ _ _ HX1.out hx2) : Xt none _ _) (by simp)) (HI.out.xt (Xt.of (Ext.trans _ _ _ HX1.out hx2)))).mono ?_
    rintro e w2 ⟨rfl, rfl⟩
    rw [HN.out]
    replace HX1 := hid_mk (Ext.trans _ _ _ HX1.out hx2)
    go_wp2
    go_ret
    refine ⟨?_, HX1.out⟩
    simp only [roomE, hf, Option.isSome_none, Bool.false_or]
    by_cases hl : s.l.length < 256
    · have hl' : ¬ (256 : Int) ≤ (s.l.length : Int) := by omega
      simp [hl, hl']
    · have hl' : (256 : Int) ≤ (s.l.length : Int) := by omega
      simp [hl, hl']
/-- What Get hands back. -/
def gtV (k : ByteArray) (l : List Ent) : Value := .tuple #[encV4 (if 16 < (k.size : Int) then zV4 else (fndE k l).getD zV4), .bool (if 16 < (k.size : Int) then false else (fndE k l).isSome), .int .i64 (if 16 < (k.size : Int) then 20 else 0)]
theorem stGet_any (k : ByteArray) (h : StW w sb mb tb n s) : Calls Tryd.prog 34 #[.pointer (some ⟨sb, 0, none⟩), .string k] w fun e w' => e = .returned (gtV k s.l) ∧ Ext w w' := by
  have HS := hid_mk h
  have c3 := h.c3
  have hsl := h.lt
  obtain ⟨pv, T, hT, hI, hR, hE⟩ := h.t
  have HG := hid_mk (te_get hR h.srt k)
  have HN := hid_mk (te_size hR)
  have HT := hid_mk hT
  have HI := hid_mk hI
  clear h hT hI hR hE
  unfold gtV
  go_enter Tryd.func34, Tryd.ntmps34
  by_cases hk : 16 < (k.size : Int)
  · simp only [if_pos hk]
    go_wp2
    refine bodyPost_ret (v := .tuple #[encV4 zV4, .bool false, .int .i64 20]) (by unfold results; rw [Tryd.results34]; go_simp; first | done | rfl | exact ⟨rfl, rfl, rfl, rfl, rfl⟩) rfl ⟨rfl, by (repeat (first | exact Ext.refl _ | apply Ext.drew_left | apply Ext.drew | apply Ext.alloc | (refine Ext.setT1 ?_ (by simp))))⟩
  · simp only [if_neg hk]
    go_wp2_with fail
    refine gen_callsT (fun W => EnB4 W w.heap.size zV4 ∧ Ext w W) ⟨EnB4.new w zV4, by (repeat (first | exact Ext.refl _ | apply Ext.drew_left | apply Ext.drew | apply Ext.alloc))⟩ ?_
    rintro W ⟨hb, hxW⟩
    refine (get4_any k (HT.out.at_.xt (Xt.of hxW : Xt none _ _) (by simp)) (HI.out.xt (Xt.of hxW))).mono ?_
    rintro e w1 ⟨rfl, hx1⟩
    rw [HG.out]
    generalize hmv : (fndE k s.l).getD zV4 = mv
    generalize hms : (fndE k s.l).isSome = ms
    have HM := hid_mk (And.intro hmv hms)
    have HX1 := hid_mk (Ext.trans _ _ _ hxW hx1)
    have HB := hid_mk (hb.ext hx1)
    clear hmv hms hxW hx1 hb c3 hsl
    have b0 := HB.out.c0
    have b1 := HB.out.c1
    have b2 := HB.out.c2
    have b3 := HB.out.c3
    have b4 := HB.out.c4
    have g0 := HB.out.f 0
    have g1 := HB.out.f 1
    have g2 := HB.out.f 2
    have g3 := HB.out.f 3
    have g4 := HB.out.f 4
    have bl := HB.out.lt
    go_wp2
    refine bodyPost_ret (v := .tuple #[encV4 mv, .bool ms, .int .i64 0]) (by unfold results; rw [Tryd.results34]; go_simp; first | done | rfl) rfl ⟨by rw [HM.out.1, HM.out.2], ?_⟩
    refine Xl.ext HX1.out (L := [w.heap.size]) ?_ (by simp)
    (repeat (first | with_reducible exact Xl.refl _ | with_reducible apply Xl.alloc | with_reducible apply Xl.drew | with_reducible apply Xl.set | (focus (simp; done))))
end
end Go.Proofs.YtokcgnbjkbhmiaaDoor
