/- Sums: all entries of a list, as the document reckons them. Judging: the entries of a list that lie in a range; their keys. -/
import Derived.Test.YtokcgnbjkbhmiaaDoorMKC
import Derived.Test.YtokcgnbjkbhmiaaDoorMJC
namespace Go.Proofs.YtokcgnbjkbhmiaaDoor
open Go.RowKit Go.Lib
set_option maxHeartbeats 4000000
set_option maxRecDepth 100000
set_option linter.unusedSimpArgs false
set_option linter.unusedVariables false
attribute [-go_sem] Builtin.append_
theorem en_r4Add : Enters Tryd.prog 145 := ⟨_, Tryd.func145, by kernel_rfl, rfl⟩
theorem en_r4Of : Enters Tryd.prog 146 := ⟨_, Tryd.func146, by kernel_rfl, rfl⟩
theorem en_r5Of : Enters Tryd.prog 131 := ⟨_, Tryd.func131, by kernel_rfl, rfl⟩
theorem en_r5Join : Enters Tryd.prog 130 := ⟨_, Tryd.func130, by kernel_rfl, rfl⟩
/-- A tally in memory. -/
structure TalAt (w : World) (G : Nat) (n x0 x1 : Int) : Prop where
  b : w.heap[G]? = some (.cells #[.int .i64 n, .int .u64 x0, .int .u64 x1] 32 (0, 0))
namespace TalAt
variable {w w' : World} {G : Nat} {n x0 x1 : Int}
theorem c0 (h : TalAt w G n x0 x1) : w.cell? ⟨G, 0, none⟩ = some (.int .i64 n) := by simp [World.cell?, h.b]
theorem c1 (h : TalAt w G n x0 x1) : w.cell? ⟨G, 1, none⟩ = some (.int .u64 x0) := by simp [World.cell?, h.b]
theorem c2 (h : TalAt w G n x0 x1) : w.cell? ⟨G, 2, none⟩ = some (.int .u64 x1) := by simp [World.cell?, h.b]
theorem f0 (h : TalAt w G n x0 x1) : w.frozen? ⟨G, 0, none⟩ = false := by simp [World.frozen?, h.b]
theorem f1 (h : TalAt w G n x0 x1) : w.frozen? ⟨G, 1, none⟩ = false := by simp [World.frozen?, h.b]
theorem f2 (h : TalAt w G n x0 x1) : w.frozen? ⟨G, 2, none⟩ = false := by simp [World.frozen?, h.b]
theorem ext (h : TalAt w G n x0 x1) (hx : Ext w w') : TalAt w' G n x0 x1 := ⟨(hx.below.block G (Array.getElem?_eq_some_iff.1 h.b).1).trans h.b⟩
theorem xl {L : List Nat} (h : TalAt w G n x0 x1) (hx : Xl L w w') (hn : G ∉ L) : TalAt w' G n x0 x1 := ⟨(hx.block G (Array.getElem?_eq_some_iff.1 h.b).1 hn).trans h.b⟩
theorem set (h : TalAt w G n x0 x1) {m y0 y1 : Int} : TalAt (((w.setCell ⟨G, 0, none⟩ (.int .i64 m)).setCell ⟨G, 1, none⟩ (.int .u64 y0)).setCell ⟨G, 2, none⟩ (.int .u64 y1)) G m y0 y1 :=
  ⟨by rw [heap_setCell_same _ _ _ _ _ _ (heap_setCell_same _ _ _ _ _ _ (heap_setCell_same _ _ _ _ _ _ h.b))]; rfl⟩
end TalAt
theorem r5Of_any {w : World} (e : Ent) (hz : e.key.size ≤ 900000000) : Calls Tryd.prog 131 #[entV e] w fun r w' => r = .returned (.agg #[.int .i64 1, .int .u64 (entS0 e), .int .u64 (entS1 e)]) ∧ Ext w w' := by
  obtain ⟨y0, hy0⟩ : ∃ y, entS0 e = y := ⟨_, rfl⟩
  obtain ⟨y1, hy1⟩ : ∃ y, entS1 e = y := ⟨_, rfl⟩
  have HY0 := hid_mk hy0
  have HY1 := hid_mk hy1
  rw [hy0, hy1]
  clear hy0 hy1
  go_enter Tryd.func131, Tryd.ntmps131
  go_wp2_with fail
  refine gen_callsK (fun W => Ext w W ∧ TalAt W (w.heap.size + 1) 0 0 0) ⟨by (repeat (first | exact Ext.refl _ | apply Ext.drew_left | apply Ext.drew | apply Ext.alloc)), ⟨by have h := heap_alloc_new (w.alloc (.cells #[.string e.key, .int .i64 e.ctr, .int .i64 e.node, .string e.val, .bool e.dead] 57)) (.cells #[.int .i64 0, .int .u64 0, .int .u64 0] 32); rw [World.size_alloc] at h; exact h⟩⟩ ?_
  rintro W ⟨hx, hs⟩
  refine (r4Of_any e.key e.ctr e.node hz).mono ?_
  rintro r W2 ⟨rfl, hx2⟩
  rw [show lane0 (wordsK e.key e.ctr e.node) = y0 from HY0.out, show lane1 (wordsK e.key e.ctr e.node) = y1 from HY1.out]
  have HX2 := hid_mk (Ext.trans _ _ _ hx hx2)
  have HT := hid_mk (hs.ext hx2)
  have s0 := HT.out.c0
  have s1 := HT.out.c1
  have s2 := HT.out.c2
  have f0 := HT.out.f0
  have f1 := HT.out.f1
  have f2 := HT.out.f2
  have sl := cell_lt s0
  clear hx hs hx2
  go_wp2
  refine bodyPost_ret (v := .agg #[.int .i64 1, .int .u64 y0, .int .u64 y1]) (by unfold results; rw [Tryd.results131]; go_simp; first | done | rfl) rfl ⟨rfl, ?_⟩
  exact Xl.ext HX2.out (L := [w.heap.size + 1]) ((((Xl.refl W2).set (by simp)).set (by simp)).set (by simp)) (by simp)
theorem r5Join_any {w : World} (n a b m c d : Int) : Calls Tryd.prog 130 #[.agg #[.int .i64 n, .int .u64 a, .int .u64 b], .agg #[.int .i64 m, .int .u64 c, .int .u64 d]] w fun r w' => r = .returned (.agg #[.int .i64 (IntKind.i64.wrap (n + m)), .int .u64 (IntKind.u64.wrap (a + c)), .int .u64 (IntKind.u64.wrap (b + d))]) ∧ Ext w w' := by
  go_enter Tryd.func130, Tryd.ntmps130
  go_wp2_with fail
  refine gen_codeK (fun W => Ext w W ∧ TalAt W w.heap.size n a b ∧ TalAt W (w.heap.size + 1) m c d ∧ TalAt W (w.heap.size + 1 + 1) 0 0 0) ⟨by (repeat (first | exact Ext.refl _ | apply Ext.drew_left | apply Ext.drew | apply Ext.alloc)), ⟨?_⟩, ⟨?_⟩, ⟨?_⟩⟩ ?_
  · refine Eq.trans ?_ (heap_alloc_new w (.cells #[.int .i64 n, .int .u64 a, .int .u64 b] 32))
    exact (Below.heap_alloc _ _ _ (by simp; omega)).trans (Below.heap_alloc _ _ _ (by simp))
  · have h := heap_alloc_new (w.alloc (.cells #[.int .i64 n, .int .u64 a, .int .u64 b] 32)) (.cells #[.int .i64 m, .int .u64 c, .int .u64 d] 32)
    rw [World.size_alloc] at h
    exact (Below.heap_alloc _ _ _ (by simp)).trans h
  · have h := heap_alloc_new ((w.alloc (.cells #[.int .i64 n, .int .u64 a, .int .u64 b] 32)).alloc (.cells #[.int .i64 m, .int .u64 c, .int .u64 d] 32)) (.cells #[.int .i64 0, .int .u64 0, .int .u64 0] 32)
    rw [World.size_alloc, World.size_alloc] at h
    exact h
  rintro W ⟨hx, h1, h2, h3⟩
  have HX := hid_mk hx
  have HT := hid_mk h3
  have a0 := h1.c0
  have a1 := h1.c1
  have a2 := h1.c2
  have b0 := h2.c0
  have b1 := h2.c1
  have b2 := h2.c2
  have al := cell_lt a0
  have bl := cell_lt b0
  have hx5 := Ext.refl W
  have hc5 := hx5.hc; have hl5 := hx5.hl; have he5 := hx5.hle; have hn5 := hx5.hne; replace hx5 := hid_mk hx5
  clear hx h1 h2 h3
  have s0 := HT.out.c0
  have s1 := HT.out.c1
  have s2 := HT.out.c2
  have f0 := HT.out.f0
  have f1 := HT.out.f1
  have f2 := HT.out.f2
  have sl := cell_lt s0
  refine wp_region_held_below (fun i => i != 11) (.quiet 0 (.quiet 1 (.quiet 2 (.quiet 3 (.quiet 4 (.quiet 5 (.quiet 6 (.quiet 7 (.quiet 8 (.alt 9 (.quiet 10 (.alt 11 .done .stop)) .stop)))))))))) (by kernel_rfl) (by kernel_rfl) (by intro c a w d v h; cases d <;> exact h) (fun ops HO => ?_)
  refine plan_read _ (hi_of HO rfl) rfl (fun w' hE => by have hcE := (Ext.trans _ _ _ (by (repeat (first | exact hx5.out | apply Ext.drew | apply Ext.alloc))) hE).hc; (repeat (with_reducible replace hE := Ext.unD hE)); have hcF := hE.hc; clear hE; go_simp; rfl) ?_
  simp only [Act.put, List.setIfInBounds_toArray, List.set_cons_succ, List.set_cons_zero]
  refine plan_read _ (hi_of HO rfl) rfl (fun w' hE => by have hcE := (Ext.trans _ _ _ (by (repeat (first | exact hx5.out | apply Ext.drew | apply Ext.alloc))) hE).hc; (repeat (with_reducible replace hE := Ext.unD hE)); have hcF := hE.hc; clear hE; go_simp; rfl) ?_
  simp only [Act.put, List.setIfInBounds_toArray, List.set_cons_succ, List.set_cons_zero]
  refine plan_read _ (hi_of HO rfl) rfl (fun w' hE => by have hcE := (Ext.trans _ _ _ (by (repeat (first | exact hx5.out | apply Ext.drew | apply Ext.alloc))) hE).hc; (repeat (with_reducible replace hE := Ext.unD hE)); have hcF := hE.hc; clear hE; go_simp; rfl) ?_
  simp only [Act.put, List.setIfInBounds_toArray, List.set_cons_succ, List.set_cons_zero]
  refine plan_read _ (hi_of HO rfl) rfl (fun w' hE => by have hcE := (Ext.trans _ _ _ (by (repeat (first | exact hx5.out | apply Ext.drew | apply Ext.alloc))) hE).hc; (repeat (with_reducible replace hE := Ext.unD hE)); have hcF := hE.hc; clear hE; go_simp; rfl) ?_
  simp only [Act.put, List.setIfInBounds_toArray, List.set_cons_succ, List.set_cons_zero]
  refine plan_read _ (hi_of HO rfl) rfl (fun w' hE => by have hcE := (Ext.trans _ _ _ (by (repeat (first | exact hx5.out | apply Ext.drew | apply Ext.alloc))) hE).hc; (repeat (with_reducible replace hE := Ext.unD hE)); have hcF := hE.hc; clear hE; go_simp; rfl) ?_
  simp only [Act.put, List.setIfInBounds_toArray, List.set_cons_succ, List.set_cons_zero]
  refine plan_read _ (hi_of HO rfl) rfl (fun w' hE => by have hcE := (Ext.trans _ _ _ (by (repeat (first | exact hx5.out | apply Ext.drew | apply Ext.alloc))) hE).hc; (repeat (with_reducible replace hE := Ext.unD hE)); have hcF := hE.hc; clear hE; go_simp; rfl) ?_
  simp only [Act.put, List.setIfInBounds_toArray, List.set_cons_succ, List.set_cons_zero]
  refine plan_read _ (hi_of HO rfl) rfl (fun w' hE => by have hcE := (Ext.trans _ _ _ (by (repeat (first | exact hx5.out | apply Ext.drew | apply Ext.alloc))) hE).hc; (repeat (with_reducible replace hE := Ext.unD hE)); have hcF := hE.hc; clear hE; go_simp; rfl) ?_
  simp only [Act.put, List.setIfInBounds_toArray, List.set_cons_succ, List.set_cons_zero]
  refine plan_read _ (hi_of HO rfl) rfl (fun w' hE => by have hcE := (Ext.trans _ _ _ (by (repeat (first | exact hx5.out | apply Ext.drew | apply Ext.alloc))) hE).hc; (repeat (with_reducible replace hE := Ext.unD hE)); have hcF := hE.hc; clear hE; go_simp; rfl) ?_
  simp only [Act.put, List.setIfInBounds_toArray, List.set_cons_succ, List.set_cons_zero]
  refine plan_read _ (hi_of HO rfl) rfl (fun w' hE => by have hcE := (Ext.trans _ _ _ (by (repeat (first | exact hx5.out | apply Ext.drew | apply Ext.alloc))) hE).hc; (repeat (with_reducible replace hE := Ext.unD hE)); have hcF := hE.hc; clear hE; go_simp; rfl) ?_
  simp only [Act.put, List.setIfInBounds_toArray, List.set_cons_succ, List.set_cons_zero]
  refine plan_call1 en_r4Add (hi_of HO rfl) rfl rfl (by go_simp; rfl) (by exact (r4Add_any _ _ _ _ _)) ?_
  rintro e v101 ⟨rfl, hx101⟩
  refine ⟨_, rfl, fun _ => hx101, ?_⟩
  have hy101 := hid_mk (by first | (with_reducible exact Ext.unD hx101) | exact hx101 : Ext _ v101)
  replace hx101 := Ext.trans _ _ _ (by (repeat (first | exact hx5.out | apply Ext.drew | apply Ext.alloc))) hx101
  clear hc5 hl5 he5 hn5
  have hc101 := hx101.hc; have hl101 := hx101.hl; have he101 := hx101.hle; have hn101 := hx101.hne; replace hx101 := hid_mk hx101
  simp only [Act.put, List.setIfInBounds_toArray, List.set_cons_succ, List.set_cons_zero]
  replace HT := hid_mk (HT.out.ext hy101.out)
  replace HX := hid_mk (Ext.trans _ _ _ HX.out hy101.out)
  refine plan_read _ (hi_of HO rfl) rfl (fun w' hE => by have hcE := (Ext.trans _ _ _ (by (repeat (first | exact hx101.out | apply Ext.drew | apply Ext.alloc))) hE).hc; (repeat (with_reducible replace hE := Ext.unD hE)); have hcF := hE.hc; clear hE; go_simp; rfl) ?_
  simp only [Act.put, List.setIfInBounds_toArray, List.set_cons_succ, List.set_cons_zero]
  clear s0 s1 s2 f0 f1 f2 sl
  have s0 := HT.out.c0
  have s1 := HT.out.c1
  have s2 := HT.out.c2
  have f0 := HT.out.f0
  have f1 := HT.out.f1
  have f2 := HT.out.f2
  have sl := cell_lt s0
  refine plan_loud1 (hi_of HO rfl) rfl ?_
  go_simp
  refine plan_done ?fin102
  go_wp2
  refine bodyPost_ret (v := .agg #[.int .i64 (IntKind.i64.wrap (n + m)), .int .u64 (IntKind.u64.wrap (a + c)), .int .u64 (IntKind.u64.wrap (b + d))]) (by unfold results; rw [Tryd.results130]; go_simp; first | done | rfl) rfl ⟨rfl, ?_⟩
  exact Xl.ext HX.out (L := [w.heap.size + 1 + 1]) ((((Xl.refl _).set (by simp)).set (by simp)).set (by simp)) (by simp; omega)
/-- What the document's All has laid, and where it stands. -/
structure RAllAt (w W : World) (n x0 x1 : Int) : Prop where
  x : Ext w W
  r : TalAt W w.heap.size 0 0 0
  s : TalAt W (w.heap.size + 1) n x0 x1
theorem RAllAt.ext {w W W' : World} {n x0 x1 : Int} (h : RAllAt w W n x0 x1) (hx : Ext W W') : RAllAt w W' n x0 x1 := ⟨Ext.trans _ _ _ h.x hx, h.r.ext hx, h.s.ext hx⟩
theorem RAllAt.set {w W : World} {n x0 x1 m y0 y1 : Int} (h : RAllAt w W n x0 x1) : RAllAt w (((W.setCell ⟨w.heap.size + 1, 0, none⟩ (.int .i64 m)).setCell ⟨w.heap.size + 1, 1, none⟩ (.int .u64 y0)).setCell ⟨w.heap.size + 1, 2, none⟩ (.int .u64 y1)) m y0 y1 := by
  have hx : Xl [w.heap.size + 1] W (((W.setCell ⟨w.heap.size + 1, 0, none⟩ (.int .i64 m)).setCell ⟨w.heap.size + 1, 1, none⟩ (.int .u64 y0)).setCell ⟨w.heap.size + 1, 2, none⟩ (.int .u64 y1)) := (((Xl.refl W).set (by simp)).set (by simp)).set (by simp)
  exact ⟨Xl.ext h.x hx (by simp), h.r.xl hx (by simp), h.s.set⟩
theorem r5All_any {w : World} (l : List Ent) (v : Value) (hs : EntSl w v l) (hz : ∀ e ∈ l, e.key.size ≤ 900000000) : Calls Tryd.prog 102 #[v] w fun e w' => e = .returned (.agg #[.int .i64 (l.length : Int), .int .u64 (sum0 l), .int .u64 (sum1 l)]) ∧ Ext w w' := by
  obtain ⟨a, c, rfl, hlc, hc63, hcells⟩ := hs
  have HC := hid_mk hcells
  have HZ := hid_mk hz
  clear hcells hz
  go_enter Tryd.func102, Tryd.ntmps102
  go_wp2_with fail
  go_loopw [4] (fun i wr => ∃ k : Nat, k ≤ l.length ∧ i = .int .i64 (k : Int) ∧ RAllAt w wr (k : Int) (sum0 (l.take k)) (sum1 (l.take k))) (fun i _ => l.length - (intOf i).toNat)
  case atStart =>
    refine ⟨0, Nat.zero_le _, rfl, by (repeat (first | exact Ext.refl _ | apply Ext.drew_left | apply Ext.drew | apply Ext.alloc)), ⟨?_⟩, ⟨?_⟩⟩
    · have h := heap_alloc_new w (.cells #[.int .i64 0, .int .u64 0, .int .u64 0] 32)
      refine Eq.trans ?_ h
      exact Below.heap_alloc _ _ _ (by simp)
    · have h := heap_alloc_new (w.alloc (.cells #[.int .i64 0, .int .u64 0, .int .u64 0] 32)) (.cells #[.int .i64 0, .int .u64 0, .int .u64 0] 32)
      rw [World.size_alloc] at h
      exact h
  case round =>
    obtain ⟨k, hk, rfl, ha⟩ := hrel
    have HA := hid_mk ha
    clear ha
    by_cases hlt : k < l.length
    · obtain ⟨b, o, rfl, hcl⟩ := HC.out (by omega)
      obtain ⟨a0, a1, a2, a3, a4⟩ := (hcl k hlt).ext HA.out.x
      have hbl := cell_lt a0
      have HT := hid_mk (show l.take (k + 1) = l.take k ++ [l[k]] from List.take_succ_eq_append_getElem hlt)
      have HKZ := hid_mk (HZ.out l[k] (List.getElem_mem hlt))
      obtain ⟨y, hy⟩ : ∃ y, l[k] = y := ⟨_, rfl⟩
      rw [hy] at a0 a1 a2 a3 a4 HT HKZ
      obtain ⟨x0, hx0⟩ : ∃ x, sum0 (l.take k) = x := ⟨_, rfl⟩
      obtain ⟨x1, hx1⟩ : ∃ x, sum1 (l.take k) = x := ⟨_, rfl⟩
      have HX0 := hid_mk (show sum0 (l.take (k + 1)) = IntKind.u64.wrap (x0 + entS0 y) by rw [HT.out, sum0_snoc, hx0])
      have HX1 := hid_mk (show sum1 (l.take (k + 1)) = IntKind.u64.wrap (x1 + entS1 y) by rw [HT.out, sum1_snoc, hx1])
      rw [hx0, hx1] at HA
      have hk1 : (k : Int) < (l.length : Int) := by omega
      have hk0 : (0 : Int) ≤ (k : Int) := by omega
      have HW := hid_mk (show wrap64 ((k : Int) + 1) = (k : Int) + 1 from w64in (by omega))
      clear hcl hy hx0 hx1
      go_wp2_with fail
      have s0 := HA.out.s.c0
      have s1 := HA.out.s.c1
      have s2 := HA.out.s.c2
      have f0 := HA.out.s.f0
      have f1 := HA.out.s.f1
      have f2 := HA.out.s.f2
      have sl := cell_lt s0
      have hx5 := Ext.refl wr
      have hc5 := hx5.hc; have hl5 := hx5.hl; have he5 := hx5.hle; have hn5 := hx5.hne; replace hx5 := hid_mk hx5
      refine wp_region_held_below (fun i => i != 7) (.quiet 0 (.quiet 1 (.quiet 2 (.quiet 3 (.quiet 4 (.alt 5 (.alt 6 (.alt 7 .done .stop) .stop) .stop)))))) (by kernel_rfl) (by kernel_rfl) (by intro c a w d v h; cases d <;> exact h) (fun ops HO => ?_)
      refine plan_read _ (hi_of HO rfl) rfl (fun w' hE => by have hcE := (Ext.trans _ _ _ (by (repeat (first | exact hx5.out | apply Ext.drew | apply Ext.alloc))) hE).hc; (repeat (with_reducible replace hE := Ext.unD hE)); have hcF := hE.hc; clear hE; go_simp; rfl) ?_
      simp only [Act.put, List.setIfInBounds_toArray, List.set_cons_succ, List.set_cons_zero]
      refine plan_read _ (hi_of HO rfl) rfl (fun w' hE => by have hcE := (Ext.trans _ _ _ (by (repeat (first | exact hx5.out | apply Ext.drew | apply Ext.alloc))) hE).hc; (repeat (with_reducible replace hE := Ext.unD hE)); have hcF := hE.hc; clear hE; go_simp; rfl) ?_
      simp only [Act.put, List.setIfInBounds_toArray, List.set_cons_succ, List.set_cons_zero]
      refine plan_read _ (hi_of HO rfl) rfl (fun w' hE => by have hcE := (Ext.trans _ _ _ (by (repeat (first | exact hx5.out | apply Ext.drew | apply Ext.alloc))) hE).hc; (repeat (with_reducible replace hE := Ext.unD hE)); have hcF := hE.hc; clear hE; go_simp; rfl) ?_
      simp only [Act.put, List.setIfInBounds_toArray, List.set_cons_succ, List.set_cons_zero]
      refine plan_read _ (hi_of HO rfl) rfl (fun w' hE => by have hcE := (Ext.trans _ _ _ (by (repeat (first | exact hx5.out | apply Ext.drew | apply Ext.alloc))) hE).hc; (repeat (with_reducible replace hE := Ext.unD hE)); have hcF := hE.hc; clear hE; go_simp; rfl) ?_
      simp only [Act.put, List.setIfInBounds_toArray, List.set_cons_succ, List.set_cons_zero]
      refine plan_read _ (hi_of HO rfl) rfl (fun w' hE => by have hcE := (Ext.trans _ _ _ (by (repeat (first | exact hx5.out | apply Ext.drew | apply Ext.alloc))) hE).hc; (repeat (with_reducible replace hE := Ext.unD hE)); have hcF := hE.hc; clear hE; go_simp; rfl) ?_
      simp only [Act.put, List.setIfInBounds_toArray, List.set_cons_succ, List.set_cons_zero]
      refine plan_call1 en_r5Of (hi_of HO rfl) rfl rfl (by go_simp; rfl) (by exact (r5Of_any y HKZ.out)) ?_
      rintro e v103 ⟨rfl, hx103⟩
      refine ⟨_, rfl, fun _ => hx103, ?_⟩
      have hy103 := hid_mk (by first | (with_reducible exact Ext.unD hx103) | exact hx103 : Ext _ v103)
      replace hx103 := Ext.trans _ _ _ (by (repeat (first | exact hx5.out | apply Ext.drew | apply Ext.alloc))) hx103
      clear hc5 hl5 he5 hn5
      have hc103 := hx103.hc; have hl103 := hx103.hl; have he103 := hx103.hle; have hn103 := hx103.hne; replace hx103 := hid_mk hx103
      simp only [Act.put, List.setIfInBounds_toArray, List.set_cons_succ, List.set_cons_zero]
      replace HA := hid_mk (HA.out.ext hy103.out)
      refine plan_call1 en_r5Join (hi_of HO rfl) rfl rfl (by go_simp; rfl) (by exact (r5Join_any _ _ _ _ _ _)) ?_
      rintro e v104 ⟨rfl, hx104⟩
      refine ⟨_, rfl, fun _ => hx104, ?_⟩
      have hy104 := hid_mk (by first | (with_reducible exact Ext.unD hx104) | exact hx104 : Ext _ v104)
      replace hx104 := Ext.trans _ _ _ (by (repeat (first | exact hx103.out | apply Ext.drew | apply Ext.alloc))) hx104
      clear hc103 hl103 he103 hn103
      have hc104 := hx104.hc; have hl104 := hx104.hl; have he104 := hx104.hle; have hn104 := hx104.hne; replace hx104 := hid_mk hx104
      simp only [Act.put, List.setIfInBounds_toArray, List.set_cons_succ, List.set_cons_zero]
      replace HA := hid_mk (HA.out.ext hy104.out)
      clear s0 s1 s2 f0 f1 f2 sl
      have s0 := HA.out.s.c0
      have s1 := HA.out.s.c1
      have s2 := HA.out.s.c2
      have f0 := HA.out.s.f0
      have f1 := HA.out.s.f1
      have f2 := HA.out.s.f2
      have sl := cell_lt s0
      refine plan_loud1 (hi_of HO rfl) rfl ?_
      go_simp
      refine plan_done ?fin105
      go_wp2
      go_roundw
      case rel => exact ⟨k + 1, hlt, (by first | exact congrArg (Value.int .i64) HW.out | rfl), by rw [HX0.out, HX1.out]; exact HA.out.set⟩
      case measure => (try simp only [HW.out]); simp [intOf]; omega
    · obtain rfl : k = l.length := by omega
      have hmm : ¬ ((l.length : Nat) : Int) < (l.length : Int) := by omega
      rw [List.take_length] at HA
      obtain ⟨x0, hx0⟩ : ∃ x, sum0 l = x := ⟨_, rfl⟩
      obtain ⟨x1, hx1⟩ : ∃ x, sum1 l = x := ⟨_, rfl⟩
      rw [hx0, hx1] at HA
      have HX0 := hid_mk hx0
      have HX1 := hid_mk hx1
      clear hx0 hx1
      have s0 := HA.out.s.c0
      have s1 := HA.out.s.c1
      have s2 := HA.out.s.c2
      have f0 := HA.out.s.f0
      have f1 := HA.out.s.f1
      have f2 := HA.out.s.f2
      have sl := cell_lt s0
      have r0 := HA.out.r.c0
      have r1 := HA.out.r.c1
      have r2 := HA.out.r.c2
      have g0 := HA.out.r.f0
      have g1 := HA.out.r.f1
      have g2 := HA.out.r.f2
      go_wp2
      refine bodyPost_ret (v := .agg #[.int .i64 (l.length : Int), .int .u64 x0, .int .u64 x1]) (by unfold results; rw [Tryd.results102]; go_simp; first | done | rfl) rfl ⟨by rw [HX0.out, HX1.out], ?_⟩
      exact Xl.ext HA.out.x (L := [w.heap.size]) ((((Xl.refl wr).set (by simp)).set (by simp)).set (by simp)) (by simp)
end Go.Proofs.YtokcgnbjkbhmiaaDoor
namespace Go.Proofs.YtokcgnbjkbhmiaaDoor
open Go.RowKit Go.Lib
set_option maxHeartbeats 4000000
set_option maxRecDepth 100000
set_option linter.unusedSimpArgs false
set_option linter.unusedVariables false
attribute [-go_sem] Builtin.append_
theorem en_mIn : Enters Tryd.prog 47 := ⟨_, Tryd.func47, by kernel_rfl, rfl⟩
theorem en_r9In : Enters Tryd.prog 44 := ⟨_, Tryd.func44, by kernel_rfl, rfl⟩
abbrev rngV (lo hi : ByteArray) (op : Bool) : Value := .agg #[.string lo, .string hi, .bool op]
def holdE (lo hi : ByteArray) (op : Bool) (e : Ent) : Bool := rngHolds lo hi op e.key
def inF (lo hi : ByteArray) (op : Bool) (l : List Ent) : List Ent := l.filter (holdE lo hi op)
def inE (lo hi : ByteArray) (op : Bool) (l : List Ent) : Int := if mChk l ≠ 0 then mChk l else rngCheck lo hi op
def inR (lo hi : ByteArray) (op : Bool) (l : List Ent) : List Ent := if inE lo hi op l = 0 then inF lo hi op l else []
theorem inF_snoc (lo hi : ByteArray) (op : Bool) (l : List Ent) (e : Ent) : inF lo hi op (l ++ [e]) = if holdE lo hi op e = true then inF lo hi op l ++ [e] else inF lo hi op l := by
  unfold inF
  rw [List.filter_append]
  cases h : holdE lo hi op e <;> simp [h]
theorem inF_len (lo hi : ByteArray) (op : Bool) (l : List Ent) : (inF lo hi op l).length ≤ l.length := List.length_filter_le _ _
/-- What In has laid, and where it stands. -/
structure InAt (w W : World) (lo hi : ByteArray) (op : Bool) (v : Value) (l : List Ent) : Prop where
  x : Ext w W
  c0 : W.cell? ⟨w.heap.size, 0, none⟩ = some (.string lo)
  c1 : W.cell? ⟨w.heap.size, 1, none⟩ = some (.string hi)
  c2 : W.cell? ⟨w.heap.size, 2, none⟩ = some (.bool op)
  o : OwEn W (w.heap.size + 1) v l
theorem InAt.ext {w W W' : World} {lo hi : ByteArray} {op : Bool} {v : Value} {l : List Ent} (h : InAt w W lo hi op v l) (hx : Ext W W') : InAt w W' lo hi op v l := ⟨Ext.trans _ _ _ h.x hx, cell_ext hx h.c0, cell_ext hx h.c1, cell_ext hx h.c2, h.o.ext hx⟩
theorem InAt.app {w W Z : World} {lo hi : ByteArray} {op : Bool} {v v' : Value} {l l' : List Ent} (h : InAt w W lo hi op v l) (hg : W.grownBy Z v.ownBlock) (ho : OwEn Z (w.heap.size + 1) v' l') : InAt w Z lo hi op v' l' := by
  have hx : Ext w Z := ext_grown h.x hg h.o (by omega)
  have hk : ∀ o u, W.cell? ⟨w.heap.size, o, none⟩ = some u → Z.cell? ⟨w.heap.size, o, none⟩ = some u := fun o u hu => by
    have hne : some w.heap.size ≠ v.ownBlock := fun e => by
      have := (World.ownsRow.lt h.o _ e.symm).1
      omega
    unfold World.cell? at hu ⊢
    rw [hg.block _ (cell_lt (o := o) (by unfold World.cell?; exact hu)) (fun e => hne e)]
    exact hu
  exact ⟨hx, hk _ _ h.c0, hk _ _ h.c1, hk _ _ h.c2, ho⟩
theorem entSl_one {W : World} {B : Nat} {x : Ent} (h : EntAt W B 0 x) : EntSl W (.slice (some ⟨B, 0, none⟩) 1 1) [x] := ⟨_, 1, rfl, Nat.le_refl _, by simp, fun _ => ⟨_, 0, rfl, fun i hi => by
  obtain rfl : i = 0 := by simpa using hi
  exact h⟩⟩
theorem mIn_any {w : World} (lo hi : ByteArray) (op : Bool) (l : List Ent) (v : Value) (hs : EntSl w v l) (hl : l.length ≤ 300000000) :
    Calls Tryd.prog 47 #[v, rngV lo hi op] w fun e w' => ∃ v, e = .returned (.tuple #[v, .int .i64 (inE lo hi op l)]) ∧ OwEn w' w.heap.size v (inR lo hi op l) ∧ Ext w w' := by
  have HS := hid_mk hs
  obtain ⟨a, c, rfl, hlc, hc63, hcells⟩ := hs
  have HC := hid_mk hcells
  clear hcells
  obtain ⟨z, hz⟩ : ∃ z, mChk l = z := ⟨_, rfl⟩
  have HZ := hid_mk hz
  obtain ⟨u, hu⟩ : ∃ u, rngCheck lo hi op = u := ⟨_, rfl⟩
  have HU := hid_mk hu
  obtain ⟨E, hE⟩ : ∃ E, inE lo hi op l = E := ⟨_, rfl⟩
  obtain ⟨R, hR⟩ : ∃ R, inR lo hi op l = R := ⟨_, rfl⟩
  have HE := hid_mk (show (if z ≠ 0 then z else u) = E by rw [← hE, inE, hz, hu])
  have HR := hid_mk (show (if E = 0 then inF lo hi op l else []) = R by rw [← hR, inR, hE])
  rw [hE, hR]
  clear hz hu hE hR
  go_enter Tryd.func47, Tryd.ntmps47
  go_wp2_with fail
  refine gen_callsK (fun W => InAt w W lo hi op (.slice none 0 0) []) ⟨by (repeat (first | exact Ext.refl _ | apply Ext.drew_left | apply Ext.drew | apply Ext.alloc)), by go_simp, by go_simp, by go_simp, ownE_nil _ _⟩ ?_
  intro W0 h0
  have HA0 := hid_mk h0
  clear h0
  refine (mCheck_any l _ W0 (HS.out.ext HA0.out.x)).mono ?_
  rintro e W1 ⟨rfl, hx⟩
  rw [HZ.out]
  have HA1 := hid_mk (HA0.out.ext hx)
  clear hx HA0
  by_cases hz0 : z = 0
  rotate_left
  · have hb : (z == 0) = false := by rw [beq_eq_false_iff_ne]; exact hz0
    obtain rfl : z = E := by rw [← HE.out, if_pos hz0]
    have HR' := hid_mk (show R = [] by rw [← HR.out, if_neg hz0])
    go_wp2
    refine bodyPost_ret (v := .tuple #[.slice none 0 0, .int .i64 z]) (by unfold results; rw [Tryd.results47]; go_simp; first | done | rfl) rfl ⟨_, rfl, by rw [HR'.out]; exact ownE_nil _ _, HA1.out.x⟩
  subst hz0
  rw [if_neg (by simp)] at HE
  have c0 := HA1.out.c0
  have c1 := HA1.out.c1
  have c2 := HA1.out.c2
  have rl := cell_lt c0
  go_wp2_with fail
  refine (sCheck_any lo hi op W1).mono ?_
  rintro e W2 ⟨rfl, hx⟩
  rw [HU.out]
  have HA2 := hid_mk (HA1.out.ext hx)
  clear hx HA1 c0 c1 c2 rl
  by_cases hu0 : u = 0
  rotate_left
  · have hb : (u == 0) = false := by rw [beq_eq_false_iff_ne]; exact hu0
    obtain rfl : u = E := HE.out
    have HR' := hid_mk (show R = [] by rw [← HR.out, if_neg hu0])
    go_wp2
    refine bodyPost_ret (v := .tuple #[.slice none 0 0, .int .i64 u]) (by unfold results; rw [Tryd.results47]; go_simp; first | done | rfl) rfl ⟨_, rfl, by rw [HR'.out]; exact ownE_nil _ _, HA2.out.x⟩
  subst hu0
  obtain rfl : 0 = E := HE.out
  rw [if_pos rfl] at HR
  go_wp2_with fail
  go_loopw [8, 23] (fun v i wr => ∃ k : Nat, k ≤ l.length ∧ i = .int .i64 (k : Int) ∧ InAt w wr lo hi op v (inF lo hi op (l.take k))) (fun _ i _ => l.length - (intOf i).toNat)
  case atStart => exact ⟨0, Nat.zero_le _, rfl, HA2.out⟩
  case round =>
    clear HA2
    obtain ⟨k, hk, rfl, ha⟩ := hrel
    have HA := hid_mk ha
    clear ha
    by_cases hlt : k < l.length
    · skip
      obtain ⟨b, o, rfl, hcl⟩ := HC.out (by omega)
      obtain ⟨a0, a1, a2, a3, a4⟩ := (hcl k hlt).ext HA.out.x
      have hbl := cell_lt a0
      have HT := hid_mk (show inF lo hi op (l.take (k + 1)) = if holdE lo hi op l[k] = true then inF lo hi op (l.take k) ++ [l[k]] else inF lo hi op (l.take k) by rw [List.take_succ_eq_append_getElem hlt, inF_snoc])
      obtain ⟨y, hy⟩ : ∃ y, l[k] = y := ⟨_, rfl⟩
      rw [hy] at a0 a1 a2 a3 a4 HT
      obtain ⟨h, hh⟩ : ∃ h, holdE lo hi op y = h := ⟨_, rfl⟩
      have HH := hid_mk hh
      have hk1 : (k : Int) < (l.length : Int) := by omega
      have hk0 : (0 : Int) ≤ (k : Int) := by omega
      have HW := hid_mk (show wrap64 ((k : Int) + 1) = (k : Int) + 1 from w64in (by omega))
      have HLM := hid_mk (inF_len lo hi op (l.take k))
      rw [List.length_take] at HLM
      clear hcl hy hh
      have c0 := HA.out.c0
      have c1 := HA.out.c1
      have c2 := HA.out.c2
      have rl := cell_lt c0
      go_wp2_with fail
      refine gen_callsK (fun W => InAt w W lo hi op u8 (inF lo hi op (l.take k)) ∧ EntAt W wr.heap.size 0 y) ⟨HA.out.ext (by (repeat (first | exact Ext.refl _ | apply Ext.drew_left | apply Ext.drew | apply Ext.alloc))), ⟨by go_simp, by go_simp, by go_simp, by go_simp, by go_simp⟩⟩ ?_
      rintro W3 ⟨h3, he⟩
      clear a0 a1 a2 a3 a4 hbl HA c0 c1 c2 rl
      refine (sHolds_any lo hi op y.key W3).mono ?_
      rintro e W4 ⟨rfl, hx⟩
      rw [show rngHolds lo hi op y.key = h from HH.out]
      have HA := hid_mk (h3.ext hx)
      obtain ⟨a0, a1, a2, a3, a4⟩ := he.ext hx
      have hbl := cell_lt a0
      clear h3 he hx
      cases h with
      | true =>
        obtain ⟨v', w', hrun, ho, hg, hob⟩ := appendE (w := W4.alloc (.cells #[.string y.key, .int .i64 y.ctr, .int .i64 y.node, .string y.val, .bool y.dead] 57)) (lv := .slice (some ⟨W4.heap.size, 0, none⟩) 1 1) (L := [y]) (HA.out.ext (by (repeat (first | exact Ext.refl _ | apply Ext.drew_left | apply Ext.drew | apply Ext.alloc)))).o (entSl_one ⟨by go_simp, by go_simp, by go_simp, by go_simp, by go_simp⟩) (by have := HLM.out; simp; omega) (by have := cell_lt HA.out.c0; simp; omega)
        have HB := hid_mk (show InAt w w' lo hi op v' (inF lo hi op (l.take (k + 1))) by rw [HT.out, if_pos HH.out]; exact (HA.out.ext (by (repeat (first | exact Ext.refl _ | apply Ext.drew_left | apply Ext.drew | apply Ext.alloc)))).app hg ho)
        clear ho hg hob
        go_wp2
        go_roundw
        case rel => exact ⟨k + 1, hlt, (by first | exact congrArg (Value.int .i64) HW.out | rfl), HB.out⟩
        case measure => (try simp only [HW.out]); simp [intOf]; omega
      | false =>
        go_wp2
        go_roundw
        case rel => exact ⟨k + 1, hlt, (by first | exact congrArg (Value.int .i64) HW.out | rfl), by rw [HT.out, if_neg (by rw [HH.out]; simp)]; exact HA.out⟩
        case measure => (try simp only [HW.out]); simp [intOf]; omega
    · obtain rfl : k = l.length := by omega
      have hmm : ¬ ((l.length : Nat) : Int) < (l.length : Int) := by omega
      rw [List.take_length] at HA
      go_wp2
      refine bodyPost_ret (v := .tuple #[u8, .int .i64 0]) (by unfold results; rw [Tryd.results47]; go_simp; first | done | rfl) rfl ⟨_, rfl, by rw [← HR.out]; exact HA.out.o.lower (by omega), HA.out.x⟩
end Go.Proofs.YtokcgnbjkbhmiaaDoor
