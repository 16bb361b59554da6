/- Sums: all entries of a list, as mix and tally reckon them. Sums: the document's words of a key and a version, and its lanes. -/
import Derived.Test.YtokcgnbjkbhmiaaDoorMKO
namespace Go.Proofs.YtokcgnbjkbhmiaaDoor
open Go.RowKit Go.Lib
set_option maxHeartbeats 4000000
set_option maxRecDepth 100000
set_option linter.unusedSimpArgs false
set_option linter.unusedVariables false
theorem en_tlAll : Enters Tryd.prog 51 := ⟨_, Tryd.func51, by kernel_rfl, rfl⟩
def entS0 (e : Ent) : Int := lane0 (wordsK e.key e.ctr e.node)
def entS1 (e : Ent) : Int := lane1 (wordsK e.key e.ctr e.node)
def sum0 (l : List Ent) : Int := l.foldl (fun s e => IntKind.u64.wrap (s + entS0 e)) 0
def sum1 (l : List Ent) : Int := l.foldl (fun s e => IntKind.u64.wrap (s + entS1 e)) 0
theorem sum0_snoc (l : List Ent) (e : Ent) : sum0 (l ++ [e]) = IntKind.u64.wrap (sum0 l + entS0 e) := by unfold sum0; rw [List.foldl_append]; rfl
theorem sum1_snoc (l : List Ent) (e : Ent) : sum1 (l ++ [e]) = IntKind.u64.wrap (sum1 l + entS1 e) := by unfold sum1; rw [List.foldl_append]; rfl
/-- What All has laid, and where it stands. -/
structure AllAt (w W : World) (x0 x1 : Int) : Prop where
  x : Ext w W
  r : SumAt W w.heap.size 0 0
  s : SumAt W (w.heap.size + 1) x0 x1
theorem AllAt.ext {w W W' : World} {x0 x1 : Int} (h : AllAt w W x0 x1) (hx : Ext W W') : AllAt w W' x0 x1 := ⟨Ext.trans _ _ _ h.x hx, h.r.ext hx, h.s.ext hx⟩
theorem AllAt.set {w W : World} {x0 x1 y0 y1 z0 z1 : Int} (h : AllAt w W x0 x1) (e0 : z0 = y0) (e1 : z1 = y1) : AllAt w ((W.setCell ⟨w.heap.size + 1, 0, none⟩ (.int .u64 z0)).setCell ⟨w.heap.size + 1, 1, none⟩ (.int .u64 z1)) y0 y1 := by
  have hx : Xl [w.heap.size + 1] W ((W.setCell ⟨w.heap.size + 1, 0, none⟩ (.int .u64 z0)).setCell ⟨w.heap.size + 1, 1, none⟩ (.int .u64 z1)) := ((Xl.refl W).set (by simp)).set (by simp)
  exact ⟨Xl.ext h.x hx (by simp), h.r.xl hx (by simp), (h.s.set0 e0).set1 e1⟩
theorem mxAll_any {w : World} (l : List Ent) (v : Value) (hl : LanesAt w) (hs : EntSl w v l) : Calls Tryd.prog 97 #[v] w fun e w' => e = .returned (.agg #[.int .u64 (sum0 l), .int .u64 (sum1 l)]) ∧ Ext w w' := by
  have HL := hid_mk hl
  obtain ⟨a, c, rfl, hlc, hc63, hcells⟩ := hs
  have HC := hid_mk hcells
  clear hl hcells
  go_enter Tryd.func97, Tryd.ntmps97
  go_wp2_with fail
  go_loopw [9] (fun i wr => ∃ k : Nat, k ≤ l.length ∧ i = .int .i64 (k : Int) ∧ AllAt w wr (sum0 (l.take k)) (sum1 (l.take k))) (fun i _ => l.length - (intOf i).toNat)
  case atStart =>
    refine ⟨0, Nat.zero_le _, rfl, by (repeat (first | exact Ext.refl _ | apply Ext.drew_left | apply Ext.drew | apply Ext.alloc)), ⟨?_⟩, ⟨?_⟩⟩
    · have h := heap_alloc_new w (.cells #[.int .u64 0, .int .u64 0] 30)
      refine Eq.trans ?_ h
      exact Below.heap_alloc _ _ _ (by simp)
    · have h := heap_alloc_new (w.alloc (.cells #[.int .u64 0, .int .u64 0] 30)) (.cells #[.int .u64 0, .int .u64 0] 30)
      rw [World.size_alloc] at h
      exact h
  case round =>
    obtain ⟨k, hk, rfl, ha⟩ := hrel
    have HA := hid_mk ha
    clear ha
    by_cases hlt : k < l.length
    · obtain ⟨b, o, rfl, hcl⟩ := HC.out (by omega)
      obtain ⟨a0, a1, a2, a3, a4⟩ := (hcl k hlt).ext HA.out.x
      have hbl := cell_lt a0
      have HT := hid_mk (show l.take (k + 1) = l.take k ++ [l[k]] from List.take_succ_eq_append_getElem hlt)
      obtain ⟨y, hy⟩ : ∃ y, l[k] = y := ⟨_, rfl⟩
      rw [hy] at a0 a1 a2 a3 a4 HT
      obtain ⟨x0, hx0⟩ : ∃ x, sum0 (l.take k) = x := ⟨_, rfl⟩
      obtain ⟨x1, hx1⟩ : ∃ x, sum1 (l.take k) = x := ⟨_, rfl⟩
      have HX0 := hid_mk (show sum0 (l.take (k + 1)) = IntKind.u64.wrap (x0 + entS0 y) by rw [HT.out, sum0_snoc, hx0])
      have HX1 := hid_mk (show sum1 (l.take (k + 1)) = IntKind.u64.wrap (x1 + entS1 y) by rw [HT.out, sum1_snoc, hx1])
      rw [hx0, hx1] at HA
      have hk1 : (k : Int) < (l.length : Int) := by omega
      have hk0 : (0 : Int) ≤ (k : Int) := by omega
      have HW := hid_mk (show wrap64 ((k : Int) + 1) = (k : Int) + 1 from w64in (by omega))
      clear hcl hy hx0 hx1
      go_wp2_with fail
      refine gen_codeK (fun W => AllAt w W x0 x1 ∧ EntAt W wr.heap.size 0 y) ⟨HA.out.ext (by (repeat (first | exact Ext.refl _ | apply Ext.drew_left | apply Ext.drew | apply Ext.alloc))), ⟨by go_simp, by go_simp, by go_simp, by go_simp, by go_simp⟩⟩ ?_
      rintro W ⟨hw, he0, he1, he2, he3, he4⟩
      have HWA := hid_mk hw
      clear hw a0 a1 a2 a3 a4 hbl
      have hel := cell_lt he0
      have s0 := HWA.out.s.c0
      have s1 := HWA.out.s.c1
      have f0 := HWA.out.s.f0
      have f1 := HWA.out.s.f1
      have sl := cell_lt s0
      have HLW := hid_mk (HL.out.ext HWA.out.x)
      have hx5 := Ext.refl W
      have hc5 := hx5.hc; have hl5 := hx5.hl; have he5 := hx5.hle; have hn5 := hx5.hne; replace hx5 := hid_mk hx5
      refine wp_region_held_below (fun i => i != 7) (.quiet 0 (.quiet 1 (.quiet 2 (.quiet 3 (.quiet 4 (.alt 5 (.alt 6 (.alt 7 .done .stop) .stop) .stop)))))) (by kernel_rfl) (by kernel_rfl) (by intro c a w d v h; cases d <;> exact h) (fun ops HO => ?_)
      refine plan_read _ (hi_of HO rfl) rfl (fun w' hE => by have hcE := (Ext.trans _ _ _ (by (repeat (first | exact hx5.out | apply Ext.drew | apply Ext.alloc))) hE).hc; (repeat (with_reducible replace hE := Ext.unD hE)); have hcF := hE.hc; clear hE; go_simp; rfl) ?_
      simp only [Act.put, List.setIfInBounds_toArray, List.set_cons_succ, List.set_cons_zero]
      refine plan_read _ (hi_of HO rfl) rfl (fun w' hE => by have hcE := (Ext.trans _ _ _ (by (repeat (first | exact hx5.out | apply Ext.drew | apply Ext.alloc))) hE).hc; (repeat (with_reducible replace hE := Ext.unD hE)); have hcF := hE.hc; clear hE; go_simp; rfl) ?_
      simp only [Act.put, List.setIfInBounds_toArray, List.set_cons_succ, List.set_cons_zero]
      refine plan_read _ (hi_of HO rfl) rfl (fun w' hE => by have hcE := (Ext.trans _ _ _ (by (repeat (first | exact hx5.out | apply Ext.drew | apply Ext.alloc))) hE).hc; (repeat (with_reducible replace hE := Ext.unD hE)); have hcF := hE.hc; clear hE; go_simp; rfl) ?_
      simp only [Act.put, List.setIfInBounds_toArray, List.set_cons_succ, List.set_cons_zero]
      refine plan_read _ (hi_of HO rfl) rfl (fun w' hE => by have hcE := (Ext.trans _ _ _ (by (repeat (first | exact hx5.out | apply Ext.drew | apply Ext.alloc))) hE).hc; (repeat (with_reducible replace hE := Ext.unD hE)); have hcF := hE.hc; clear hE; go_simp; rfl) ?_
      simp only [Act.put, List.setIfInBounds_toArray, List.set_cons_succ, List.set_cons_zero]
      refine plan_read _ (hi_of HO rfl) rfl (fun w' hE => by have hcE := (Ext.trans _ _ _ (by (repeat (first | exact hx5.out | apply Ext.drew | apply Ext.alloc))) hE).hc; (repeat (with_reducible replace hE := Ext.unD hE)); have hcF := hE.hc; clear hE; go_simp; rfl) ?_
      simp only [Act.put, List.setIfInBounds_toArray, List.set_cons_succ, List.set_cons_zero]
      refine plan_call1 en_mxOf (hi_of HO rfl) rfl rfl (by go_simp; rfl) (by exact (mxOf_any _ _ _ (HLW.out.ext ((Ext.refl W).drew)))) ?_
      rintro e v101 ⟨rfl, hx101⟩
      refine ⟨_, rfl, fun _ => hx101, ?_⟩
      have hy101 := hid_mk (by first | (with_reducible exact Ext.unD hx101) | exact hx101 : Ext _ v101)
      replace hx101 := Ext.trans _ _ _ (by (repeat (first | exact hx5.out | apply Ext.drew | apply Ext.alloc))) hx101
      clear hc5 hl5 he5 hn5
      have hc101 := hx101.hc; have hl101 := hx101.hl; have he101 := hx101.hle; have hn101 := hx101.hne; replace hx101 := hid_mk hx101
      simp only [Act.put, List.setIfInBounds_toArray, List.set_cons_succ, List.set_cons_zero]
      replace HWA := hid_mk (HWA.out.ext hy101.out)
      refine plan_call1 en_mxAdd (hi_of HO rfl) rfl rfl (by go_simp; rfl) (by exact (mxAdd_any _ _ _ _ _)) ?_
      rintro e v102 ⟨rfl, hx102⟩
      refine ⟨_, rfl, fun _ => hx102, ?_⟩
      have hy102 := hid_mk (by first | (with_reducible exact Ext.unD hx102) | exact hx102 : Ext _ v102)
      replace hx102 := Ext.trans _ _ _ (by (repeat (first | exact hx101.out | apply Ext.drew | apply Ext.alloc))) hx102
      clear hc101 hl101 he101 hn101
      have hc102 := hx102.hc; have hl102 := hx102.hl; have he102 := hx102.hle; have hn102 := hx102.hne; replace hx102 := hid_mk hx102
      simp only [Act.put, List.setIfInBounds_toArray, List.set_cons_succ, List.set_cons_zero]
      replace HWA := hid_mk (HWA.out.ext hy102.out)
      clear s0 s1 f0 f1 sl
      have s0 := HWA.out.s.c0
      have s1 := HWA.out.s.c1
      have f0 := HWA.out.s.f0
      have f1 := HWA.out.s.f1
      have sl := cell_lt s0
      refine plan_loud1 (hi_of HO rfl) rfl ?_
      go_simp
      refine plan_done ?fin103
      go_wp2
      go_roundw
      case rel => exact ⟨k + 1, hlt, (by first | exact congrArg (Value.int .i64) HW.out | rfl), by rw [HX0.out, HX1.out]; exact HWA.out.set rfl rfl⟩
      case measure => (try simp only [HW.out]); simp [intOf]; omega
    · obtain rfl : k = l.length := by omega
      have hmm : ¬ ((l.length : Nat) : Int) < (l.length : Int) := by omega
      rw [List.take_length] at HA
      have s0 := HA.out.s.c0
      have s1 := HA.out.s.c1
      have f0 := HA.out.s.f0
      have f1 := HA.out.s.f1
      have sl := cell_lt s0
      have r0 := HA.out.r.c0
      have r1 := HA.out.r.c1
      have g0 := HA.out.r.f0
      have g1 := HA.out.r.f1
      go_wp2
      refine bodyPost_ret (v := .agg #[.int .u64 (sum0 l), .int .u64 (sum1 l)]) (by unfold results; rw [Tryd.results97]; go_simp; first | done | rfl) rfl ⟨rfl, ?_⟩
      exact Xl.ext HA.out.x (L := [w.heap.size]) (((Xl.refl wr).set (by simp)).set (by simp)) (by simp)
theorem tlAll_any {w : World} (l : List Ent) (v : Value) (hl : LanesAt w) (hs : EntSl w v l) : Calls Tryd.prog 51 #[v] w fun e w' => e = .returned (.agg #[.int .i64 (l.length : Int), .int .u64 (sum0 l), .int .u64 (sum1 l)]) ∧ Ext w w' := by
  have HL := hid_mk hl
  have HS := hid_mk hs
  obtain ⟨a, c, rfl, -⟩ := hs
  clear hl
  go_enter Tryd.func51, Tryd.ntmps51
  go_wp2_with fail
  refine gen_callsK (fun W => Ext w W ∧ W.heap[w.heap.size]? = some (.cells #[.int .i64 0, .int .u64 0, .int .u64 0] 32 (0, 0))) ⟨by (repeat (first | exact Ext.refl _ | apply Ext.drew_left | apply Ext.drew | apply Ext.alloc)), by have h := heap_alloc_new w (.cells #[.int .i64 0, .int .u64 0, .int .u64 0] 32); exact h⟩ ?_
  rintro W ⟨hx, hb⟩
  have HX := hid_mk hx
  have HB := hid_mk hb
  refine (mxAll_any l _ (HL.out.ext hx) (HS.out.ext hx)).mono ?_
  rintro e W2 ⟨rfl, hx2⟩
  have hb2 := (hx2.below.block _ (Array.getElem?_eq_some_iff.1 hb).1).trans hb
  have c0 : W2.cell? ⟨w.heap.size, 0, none⟩ = some (.int .i64 0) := by simp [World.cell?, hb2]
  have c1 : W2.cell? ⟨w.heap.size, 1, none⟩ = some (.int .u64 0) := by simp [World.cell?, hb2]
  have c2 : W2.cell? ⟨w.heap.size, 2, none⟩ = some (.int .u64 0) := by simp [World.cell?, hb2]
  have f0 : W2.frozen? ⟨w.heap.size, 0, none⟩ = false := by simp [World.frozen?, hb2]
  have f1 : W2.frozen? ⟨w.heap.size, 1, none⟩ = false := by simp [World.frozen?, hb2]
  have f2 : W2.frozen? ⟨w.heap.size, 2, none⟩ = false := by simp [World.frozen?, hb2]
  have cl := cell_lt c0
  have HX2 := hid_mk (Ext.trans _ _ _ hx hx2)
  clear hx hx2 hb hb2
  go_wp2
  refine bodyPost_ret (v := .agg #[.int .i64 (l.length : Int), .int .u64 (sum0 l), .int .u64 (sum1 l)]) (by unfold results; rw [Tryd.results51]; go_simp; first | done | rfl) rfl ⟨rfl, ?_⟩
  exact Xl.ext HX2.out (L := [w.heap.size]) ((((Xl.refl W2).set (by simp)).set (by simp)).set (by simp)) (by simp)
end Go.Proofs.YtokcgnbjkbhmiaaDoor
namespace Go.Proofs.YtokcgnbjkbhmiaaDoor
open Go.RowKit Go.Lib
set_option maxHeartbeats 4000000
set_option maxRecDepth 100000
set_option linter.unusedSimpArgs false
set_option linter.unusedVariables false
attribute [-go_sem] run_index_string
attribute [-go_sem] Builtin.append_

def cU (z : Int) : List Value := [.int .u64 z]
theorem okU : TyOk Tryd.prog 208 28 1 cU where
  ht := Tryd.underlying208
  hk := by omega
  hf := fun _ => rfl
  h1 := fun a u hu => by simp [cU] at hu; subst hu; rfl
  info := ⟨_, _, rfl, rfl, by decide, rfl, rfl⟩
  zero := fun w base n cap h x c => by cases base <;> cases x <;> (unfold Builtin.append_; go_simp)
theorem flat_set1 {α : Type} {f : α → List Value} (hf : ∀ a, (f a).length = 1) {x : α} {u : Value} (hx : f x = [u]) : ∀ (l : List α) (i : Nat), i < l.length → (l.set i x).flatMap f = (l.flatMap f).set i u
  | [], i, h => by cases h
  | a :: l, 0, h => by
    obtain ⟨z, hz⟩ := List.length_eq_one_iff.1 (hf a)
    rw [List.set_cons_zero, List.flatMap_cons, List.flatMap_cons, hx, hz]
    rfl
  | a :: l, i + 1, h => by
    obtain ⟨z, hz⟩ := List.length_eq_one_iff.1 (hf a)
    rw [List.set_cons_succ, List.flatMap_cons, List.flatMap_cons, flat_set1 hf hx l i (by simpa using h), hz]
    rfl
theorem OwG.set1 {α : Type} {t : TypeId} {f : α → List Value} (hf : ∀ a, (f a).length = 1) {w : World} {B g c i : Nat} {l : List α} {x : α} {u : Value} (h : OwG t 1 f w B (.slice (some ⟨g, 0, none⟩) l.length c) l) (hi : i < l.length) (hx : f x = [u]) :
    OwG t 1 f (w.setCell ⟨g, i, none⟩ u) B (.slice (some ⟨g, 0, none⟩) (l.set i x).length c) (l.set i x) := by
  rcases h.2 with ⟨e1, -⟩ | ⟨g', cap, cur, e1, e2, e3, e4, e5, e6, e7⟩
  · cases e1
  · cases e1
    refine ⟨flatG_len hf _, .inr ⟨g, c, cur.setIfInBounds i u, rfl, e2, heap_setCell_same _ _ _ _ _ _ e3, by rw [List.length_set]; exact e4, e5, by rw [Array.size_setIfInBounds]; exact e6, ?_⟩⟩
    rw [Array.toList_setIfInBounds, List.length_set, List.take_set, e7, flat_set1 hf hx l i hi]
theorem r4Add_any (a b c d : Int) (w : World) : Calls Tryd.prog 145 #[.agg #[.int .u64 a, .int .u64 b], .agg #[.int .u64 c, .int .u64 d]] w fun e w' => e = .returned (.agg #[.int .u64 (IntKind.u64.wrap (a + c)), .int .u64 (IntKind.u64.wrap (b + d))]) ∧ Ext w w' := by
  go_enter Tryd.func145, Tryd.ntmps145
  go_wp2
  refine bodyPost_ret (v := .agg #[.int .u64 (IntKind.u64.wrap (a + c)), .int .u64 (IntKind.u64.wrap (b + d))]) (by unfold results; rw [Tryd.results145]; go_simp; first | done | rfl) rfl ⟨rfl, ?_⟩
  (repeat (first | exact Ext.refl _ | apply Ext.drew_left | apply Ext.drew | apply Ext.alloc))
theorem r4Lane_any {w : World} (x F sh d : Int) (ws : List Int) (v : Value) (hs : GSl cU 1 w v ws) (hl : ws.length ≤ 1000000000) (hd : (sh = 29 ∧ d = 536870912) ∨ (sh = 32 ∧ d = 4294967296)) :
    Calls Tryd.prog 153 #[.int .u64 x, .int .u64 F, .int .i64 sh, v] w fun e w' => e = .returned (.int .u64 (laneI F d x ws)) ∧ Ext w w' := by
  obtain ⟨a, c, rfl, hlc, hcells⟩ := hs
  have HC := hid_mk hcells
  clear hcells
  rcases hd with ⟨rfl, rfl⟩ | ⟨rfl, rfl⟩
  · skip
    go_enter Tryd.func153, Tryd.ntmps153
    go_wp2
    go_loopw [0, 13] (fun s i wr => ∃ k : Nat, k ≤ ws.length ∧ i = .int .i64 (k : Int) ∧ s = .int .u64 (laneI F 536870912 x (ws.take k)) ∧ Ext w wr) (fun _ i _ => ws.length - (intOf i).toNat)
    case atStart => exact ⟨0, Nat.zero_le _, rfl, rfl, Ext.refl _⟩
    case round =>
      obtain ⟨k, hk, rfl, rfl, hx⟩ := hrel
      have HX := hid_mk hx
      clear hx
      obtain ⟨y, hy⟩ : ∃ y, laneI F 536870912 x (ws.take k) = y := ⟨_, rfl⟩
      rw [hy]
      by_cases hlt : k < ws.length
      · obtain ⟨b, o, rfl, hcl⟩ := HC.out (by omega)
        have a0 : wr.cell? ⟨b, o + k, none⟩ = some (.int .u64 ws[k]) := by
          have h := hcl k hlt 0 (by omega)
          simp only [cU, List.getElem?_cons_zero, Nat.mul_one, Nat.add_zero] at h
          exact cell_ext HX.out h
        have hbl := cell_lt a0
        have HT := hid_mk (show laneI F 536870912 x (ws.take (k + 1)) = stirI F 536870912 y ws[k] by rw [List.take_succ_eq_append_getElem hlt, laneI_snoc, hy])
        have hk1 : (k : Int) < (ws.length : Int) := by omega
        have hk0 : (0 : Int) ≤ (k : Int) := by omega
        have HW := hid_mk (show wrap64 ((k : Int) + 1) = (k : Int) + 1 from w64in (by omega))
        clear hcl hy
        go_wp2
        go_roundw
        case rel => exact ⟨k + 1, hlt, (by first | exact congrArg (Value.int .i64) HW.out | rfl), congrArg (Value.int .u64) (by rw [HT.out]; rfl), HX.out⟩
        case measure => (try simp only [HW.out]); simp [intOf]; omega
      · obtain rfl : k = ws.length := by omega
        have hmm : ¬ ((ws.length : Nat) : Int) < (ws.length : Int) := by omega
        rw [List.take_length] at hy
        have HY := hid_mk hy
        clear hy
        go_wp2
        go_ret
        exact ⟨by rw [HY.out]; rfl, HX.out⟩
  · skip
    go_enter Tryd.func153, Tryd.ntmps153
    go_wp2
    go_loopw [0, 13] (fun s i wr => ∃ k : Nat, k ≤ ws.length ∧ i = .int .i64 (k : Int) ∧ s = .int .u64 (laneI F 4294967296 x (ws.take k)) ∧ Ext w wr) (fun _ i _ => ws.length - (intOf i).toNat)
    case atStart => exact ⟨0, Nat.zero_le _, rfl, rfl, Ext.refl _⟩
    case round =>
      obtain ⟨k, hk, rfl, rfl, hx⟩ := hrel
      have HX := hid_mk hx
      clear hx
      obtain ⟨y, hy⟩ : ∃ y, laneI F 4294967296 x (ws.take k) = y := ⟨_, rfl⟩
      rw [hy]
      by_cases hlt : k < ws.length
      · obtain ⟨b, o, rfl, hcl⟩ := HC.out (by omega)
        have a0 : wr.cell? ⟨b, o + k, none⟩ = some (.int .u64 ws[k]) := by
          have h := hcl k hlt 0 (by omega)
          simp only [cU, List.getElem?_cons_zero, Nat.mul_one, Nat.add_zero] at h
          exact cell_ext HX.out h
        have hbl := cell_lt a0
        have HT := hid_mk (show laneI F 4294967296 x (ws.take (k + 1)) = stirI F 4294967296 y ws[k] by rw [List.take_succ_eq_append_getElem hlt, laneI_snoc, hy])
        have hk1 : (k : Int) < (ws.length : Int) := by omega
        have hk0 : (0 : Int) ≤ (k : Int) := by omega
        have HW := hid_mk (show wrap64 ((k : Int) + 1) = (k : Int) + 1 from w64in (by omega))
        clear hcl hy
        go_wp2
        go_roundw
        case rel => exact ⟨k + 1, hlt, (by first | exact congrArg (Value.int .i64) HW.out | rfl), congrArg (Value.int .u64) (by rw [HT.out]; rfl), HX.out⟩
        case measure => (try simp only [HW.out]); simp [intOf]; omega
      · obtain rfl : k = ws.length := by omega
        have hmm : ¬ ((ws.length : Nat) : Int) < (ws.length : Int) := by omega
        rw [List.take_length] at hy
        have HY := hid_mk hy
        clear hy
        go_wp2
        go_ret
        exact ⟨by rw [HY.out]; rfl, HX.out⟩
/-- The words when k letters are read. -/
def midB (s : ByteArray) (q : Nat) : List Int := IntKind.u64.wrap (s.size : Int) :: chunksTo s q
def midW (s : ByteArray) (k : Nat) : List Int := midB s (k / 8) ++ List.replicate (min 1 (k % 8)) ((leU s (8 * (k / 8)) (k % 8) : Nat) : Int)
theorem midB_len (s : ByteArray) (q : Nat) : (midB s q).length = q + 1 := by unfold midB chunksTo; simp
theorem midW_0 (s : ByteArray) (k : Nat) (h : k % 8 = 0) : midW s k = midB s (k / 8) := by unfold midW; rw [h]; simp
theorem midW_r (s : ByteArray) (k : Nat) (h : 0 < k % 8) : midW s k = midB s (k / 8) ++ [((leU s (8 * (k / 8)) (k % 8) : Nat) : Int)] := by unfold midW; rw [show min 1 (k % 8) = 1 by omega]; rfl
theorem midW_succ (s : ByteArray) (k : Nat) (hk : k < s.size) : midW s (k + 1) = midB s (k / 8) ++ [((leU s (8 * (k / 8)) (k % 8 + 1) : Nat) : Int)] := by
  by_cases h : k % 8 = 7
  · rw [midW_0 s (k + 1) (by omega), show (k + 1) / 8 = k / 8 + 1 by omega, midB, chunksTo_succ, chunk, show min 8 (s.size - 8 * (k / 8)) = k % 8 + 1 by omega]
    rfl
  · rw [midW_r s (k + 1) (by omega), show (k + 1) / 8 = k / 8 by omega, show (k + 1) % 8 = k % 8 + 1 by omega]
theorem midW_end (s : ByteArray) : midW s s.size = wordsP s ((s.size + 7) / 8) := by
  by_cases h : s.size % 8 = 0
  · rw [midW_0 s _ h, show (s.size + 7) / 8 = s.size / 8 by omega]; rfl
  · rw [midW_r s _ (by omega), show (s.size + 7) / 8 = s.size / 8 + 1 by omega, wordsP_succ, chunk, show min 8 (s.size - 8 * (s.size / 8)) = s.size % 8 by omega]; rfl
theorem midW_len (s : ByteArray) (k : Nat) : (midW s k).length ≤ k + 1 := by
  unfold midW
  rw [List.length_append, midB_len, List.length_replicate]
  omega
/-- What words has laid. -/
structure WdAt (w W : World) (c n : Int) (v : Value) (l : List Int) : Prop where
  x : Ext w W
  v0 : W.cell? ⟨w.heap.size, 0, none⟩ = some (.int .i64 c)
  v1 : W.cell? ⟨w.heap.size, 1, none⟩ = some (.int .i64 n)
  o : OwG 28 1 cU W (w.heap.size + 1) v l
theorem WdAt.ext {w W W' : World} {c n : Int} {v : Value} {l : List Int} (h : WdAt w W c n v l) (hx : Ext W W') : WdAt w W' c n v l := ⟨Ext.trans _ _ _ h.x hx, cell_ext hx h.v0, cell_ext hx h.v1, h.o.ext hx⟩
theorem ownG_new {α : Type} {t : TypeId} {f : α → List Value} {w : World} {B g : Nat} {x : α} {u : Value} (hx : f x = [u]) (hg : w.heap[g]? = some (.cells #[u] t (0, 0))) (hB : B ≤ g) : OwG t 1 f w B (.slice (some ⟨g, 0, none⟩) 1 1) [x] :=
  ⟨by simp [hx], .inr ⟨g, 1, #[u], rfl, hB, hg, Nat.le_refl _, by unfold maxLen; omega, rfl, by simp [hx]⟩⟩
theorem own_frozen {α : Type} {t : TypeId} {k : Nat} {f : α → List Value} {w : World} {B g n c : Nat} {l : List α} {v : Value} (h : OwG t k f w B v l) (hv : v = .slice (some ⟨g, 0, none⟩) n c) (i : Nat) : w.frozen? ⟨g, i, none⟩ = false := by
  rcases h.2 with ⟨e1, -⟩ | ⟨g', cap, cur, e1, e2, e3, e4⟩
  · rw [hv] at e1; cases e1
  · rw [hv] at e1; cases e1
    simp [World.frozen?, e3]
theorem WdAt.app {w W Z : World} {c n : Int} {v v' : Value} {l l' : List Int} (h : WdAt w W c n v l) (hg : W.grownBy Z v.ownBlock) (ho : OwG 28 1 cU Z (w.heap.size + 1) v' l') : WdAt w Z c n v' l' := by
  have hx : Ext w Z := ext_grown h.x hg h.o (by omega)
  have hk : ∀ o u, W.cell? ⟨w.heap.size, o, none⟩ = some u → Z.cell? ⟨w.heap.size, o, none⟩ = some u := fun o u hu => by
    have hne : some w.heap.size ≠ v.ownBlock := fun e => by
      have := (World.ownsRow.lt h.o _ e.symm).1
      omega
    unfold World.cell? at hu ⊢
    rw [hg.block _ (cell_lt (o := o) (by unfold World.cell?; exact hu)) (fun e => hne e)]
    exact hu
  exact ⟨hx, hk _ _ h.v0, hk _ _ h.v1, ho⟩
theorem WdAt.set {w W : World} {c n : Int} {g cp i m : Nat} {l : List Int} {x y : Int} (h : WdAt w W c n (.slice (some ⟨g, 0, none⟩) m cp) l) (hm : l.length = m) (hi : i < m) (e : x = y) :
    WdAt w (W.setCell ⟨g, i, none⟩ (.int .u64 x)) c n (.slice (some ⟨g, 0, none⟩) m cp) (l.set i y) := by
  subst e
  subst hm
  have hgl := (World.ownsRow.lt h.o g rfl).1
  have hx : Xl [g] W (W.setCell ⟨g, i, none⟩ (.int .u64 x)) := (Xl.refl W).set (by simp)
  have ho := h.o.set1 (fun _ => rfl) hi (x := x) (u := .int .u64 x) rfl
  rw [List.length_set] at ho
  exact ⟨Xl.ext h.x hx (by simp; omega), (hx.cell (cell_lt h.v0) (by simp; omega)).trans h.v0, (hx.cell (cell_lt h.v1) (by simp; omega)).trans h.v1, ho⟩
theorem shl_step0 (s : ByteArray) (m b : Nat) (hb : (s.get! m).toNat = b) : IntKind.u64.wrap (((leU s m 0 : Nat) : Int) + (b : Int)) = ((leU s m 1 : Nat) : Int) := by
  have hbl := (s.get! m).toNat_lt
  rw [leU, leU, leU, hb, IntKind.wrap_u64]
  omega
theorem shl_step (s : ByteArray) (m r b : Nat) (hr : r < 8) (hb : (s.get! (m + r)).toNat = b) :
    IntKind.u64.wrap (((leU s m r : Nat) : Int) + IntKind.u64.wrap ((b : Int) * 2 ^ ((8 : Int) * (r : Int)).toNat)) = ((leU s m (r + 1) : Nat) : Int) := by
  have hbl := (s.get! (m + r)).toNat_lt
  have h1 := leU_lt s (r + 1) m
  have h2 : 256 ^ (r + 1) ≤ 256 ^ 8 := Nat.pow_le_pow_right (by omega) (by omega)
  have e1 : ((b : Int) * 2 ^ ((8 : Int) * (r : Int)).toNat) = ((256 ^ r * b : Nat) : Int) := by
    rw [show ((8 : Int) * (r : Int)).toNat = 8 * r by omega, Nat.mul_comm, Int.natCast_mul, Int.natCast_pow, show (256 : Nat) = 2 ^ 8 from rfl]
    rw [show ((2 ^ 8 : Nat) : Int) ^ r = 2 ^ (8 * r) by rw [Int.pow_mul]; rfl, Nat.mul_comm r 8, Int.mul_comm]
  have e2 := leU_snoc s r m
  rw [hb] at e2
  rw [e1, IntKind.wrap_u64, IntKind.wrap_u64]
  omega
theorem r4Words_any {w : World} (s : ByteArray) (c n : Int) (hz : s.size ≤ 900000000) : Calls Tryd.prog 152 #[.string s, .agg #[.int .i64 c, .int .i64 n]] w fun e w' => ∃ v, e = .returned v ∧ OwG 28 1 cU w' w.heap.size v (wordsK s c n) ∧ Ext w w' := by
  go_enter Tryd.func152, Tryd.ntmps152
  go_wp2_with fail
  go_loopw [5, 6] (fun v i wr => ∃ k : Nat, k ≤ s.size ∧ i = .int .i64 (k : Int) ∧ WdAt w wr c n v (midW s k)) (fun _ i _ => s.size - (intOf i).toNat)
  case atStart =>
    refine ⟨0, Nat.zero_le _, rfl, by (repeat (first | exact Ext.refl _ | apply Ext.drew_left | apply Ext.drew | apply Ext.alloc)), by go_simp, by go_simp, ?_⟩
    have e : midW s 0 = [(s.size : Int)] := by rw [midW_0 s 0 rfl, midB, IntKind.wrap_u64, show (s.size : Int) % 18446744073709551616 = (s.size : Int) by omega]; rfl
    rw [e]
    have h := heap_alloc_new (w.alloc (.cells #[.int .i64 c, .int .i64 n] 55)) (.cells #[.int .u64 (s.size : Int)] 28)
    rw [World.size_alloc] at h
    exact ownG_new rfl h (Nat.le_refl _)
  case round =>
    obtain ⟨k, hk, rfl, ha⟩ := hrel
    have HA := hid_mk ha
    clear ha
    by_cases hlt : k < s.size
    · have hk1 : (k : Int) < (s.size : Int) := by omega
      have hk0 : (0 : Int) ≤ (k : Int) := by omega
      have HW := hid_mk (show wrap64 ((k : Int) + 1) = (k : Int) + 1 from w64in (by omega))
      by_cases h8 : k % 8 = 0
      · have h8' : (k : Int) % 8 = 0 := by omega
        have hx1 : Ext wr (wr.alloc (.cells #[.int .u64 0] 28)) := by (repeat (first | exact Ext.refl _ | apply Ext.drew_left | apply Ext.drew | apply Ext.alloc))
        obtain ⟨v', w', hrun, ho, hg, hob⟩ := appendG okU (w := wr.alloc (.cells #[.int .u64 0] 28)) (lv := .slice (some ⟨wr.heap.size, 0, none⟩) 1 1) (L := [0]) (HA.out.ext hx1).o (OwG.sl (B := wr.heap.size) (t := 28) (by omega) (fun _ => rfl) (ownG_new rfl (heap_alloc_new wr _) (Nat.le_refl _))) (by have := midW_len s k; simp; omega) (by have := (HA.out.ext hx1).x.below.size; have := HA.out.v0; have := cell_lt this; simp; omega)
        have HB := hid_mk (show WdAt w w' c n v' (midB s (k / 8) ++ [((leU s (8 * (k / 8)) (k % 8) : Nat) : Int)]) by
          have h := (HA.out.ext hx1).app hg ho
          rw [midW_0 s k h8] at h
          rw [h8]
          exact h)
        have HRUN := hid_mk hrun
        clear ho hg hob hx1 hrun
        obtain ⟨q, hq⟩ : ∃ q, k / 8 = q := ⟨_, rfl⟩
        obtain ⟨r, hr⟩ : ∃ r, k % 8 = r := ⟨_, rfl⟩
        have hkr : (k : Int) % 8 = (r : Int) := by omega
        have hr8 : r < 8 := by omega
        have hqb : q ≤ 900000000 := by omega
        have hkq : 8 * q + r = k := by omega
        have HSE := hid_mk (show (midB s q ++ [((leU s (8 * q) r : Nat) : Int)]).set (q + 1) ((leU s (8 * q) (r + 1) : Nat) : Int) = midW s (k + 1) by
          rw [midW_succ s k hlt, hq, hr, List.set_append_right _ _ (by rw [midB_len]; omega), midB_len, Nat.sub_self]; rfl)
        rw [hq, hr] at HB
        obtain ⟨g, c', hv, -, -, -, -⟩ := OwG.at (t := 28) (k := 1) (f := cU) (by omega) (fun _ => rfl) HB.out.o (by rw [List.length_append]; exact Nat.lt_of_lt_of_le (by simp) (Nat.le_add_left _ _))
        have HLN := hid_mk (show (midB s q ++ [((leU s (8 * q) r : Nat) : Int)]).length = q + 1 + 1 by rw [List.length_append, midB_len]; rfl)
        have c0 : w'.cell? ⟨g, q + 1, none⟩ = some (.int .u64 ((leU s (8 * q) r : Nat) : Int)) := OwG.cell1 (fun _ => rfl) HB.out.o hv (by rw [List.getElem?_append_right (by rw [midB_len]; omega), midB_len, Nat.sub_self]; rfl) rfl
        have f0 : w'.frozen? ⟨g, q + 1, none⟩ = false := own_frozen HB.out.o hv _
        rw [HLN.out] at hv
        have cl := cell_lt c0
        have hrunI := run_indexB s (k : Int) k rfl hlt
        obtain ⟨b, hb⟩ : ∃ b, (s.get! k).toNat = b := ⟨_, rfl⟩
        rw [hb] at hrunI
        have HBB := hid_mk (show (s.get! (8 * q + r)).toNat = b by rw [hkq]; exact hb)
        have HST := hid_mk (shl_step s (8 * q) r b hr8 (by rw [hkq]; exact hb))
        have hbl : b < 256 := by rw [← hb]; exact (s.get! k).toNat_lt
        clear hb hq hr
        subst hv
        have hrun' := HRUN.out
        go_wp2_with fail
        go_region
        go_wp2
        obtain rfl : r = 0 := by omega
        have HST0 := hid_mk (shl_step0 s (8 * q) b HBB.out)
        go_roundw
        case rel => exact ⟨k + 1, hlt, (by first | exact congrArg (Value.int .i64) HW.out | rfl), by rw [← HSE.out]; exact (HB.out.set HLN.out (by omega) HST0.out).ext ((Ext.refl _).drew)⟩
        case measure => (try simp only [HW.out]); simp [intOf]; omega
      · have h8' : ¬ (k : Int) % 8 = 0 := by omega
        rw [midW_r s k (by omega)] at HA
        obtain ⟨v5, hv5⟩ : ∃ v, u5 = v := ⟨_, rfl⟩
        rw [hv5] at HA ⊢
        clear hv5
        obtain ⟨q, hq⟩ : ∃ q, k / 8 = q := ⟨_, rfl⟩
        obtain ⟨r, hr⟩ : ∃ r, k % 8 = r := ⟨_, rfl⟩
        have hkr : (k : Int) % 8 = (r : Int) := by omega
        have hr8 : r < 8 := by omega
        have hqb : q ≤ 900000000 := by omega
        have hkq : 8 * q + r = k := by omega
        have HSE := hid_mk (show (midB s q ++ [((leU s (8 * q) r : Nat) : Int)]).set (q + 1) ((leU s (8 * q) (r + 1) : Nat) : Int) = midW s (k + 1) by
          rw [midW_succ s k hlt, hq, hr, List.set_append_right _ _ (by rw [midB_len]; omega), midB_len, Nat.sub_self]; rfl)
        rw [hq, hr] at HA
        obtain ⟨g, c', hv, -, -, -, -⟩ := OwG.at (t := 28) (k := 1) (f := cU) (by omega) (fun _ => rfl) HA.out.o (by rw [List.length_append]; exact Nat.lt_of_lt_of_le (by simp) (Nat.le_add_left _ _))
        have HLN := hid_mk (show (midB s q ++ [((leU s (8 * q) r : Nat) : Int)]).length = q + 1 + 1 by rw [List.length_append, midB_len]; rfl)
        have c0 : wr.cell? ⟨g, q + 1, none⟩ = some (.int .u64 ((leU s (8 * q) r : Nat) : Int)) := OwG.cell1 (fun _ => rfl) HA.out.o hv (by rw [List.getElem?_append_right (by rw [midB_len]; omega), midB_len, Nat.sub_self]; rfl) rfl
        have f0 : wr.frozen? ⟨g, q + 1, none⟩ = false := own_frozen HA.out.o hv _
        rw [HLN.out] at hv
        have cl := cell_lt c0
        have hrunI := run_indexB s (k : Int) k rfl hlt
        obtain ⟨b, hb⟩ : ∃ b, (s.get! k).toNat = b := ⟨_, rfl⟩
        rw [hb] at hrunI
        have HBB := hid_mk (show (s.get! (8 * q + r)).toNat = b by rw [hkq]; exact hb)
        have HST := hid_mk (shl_step s (8 * q) r b hr8 (by rw [hkq]; exact hb))
        have hbl : b < 256 := by rw [← hb]; exact (s.get! k).toNat_lt
        clear hb hq hr
        subst hv
        go_wp2_with fail
        go_region
        go_wp2
        go_roundw
        case rel => exact ⟨k + 1, hlt, (by first | exact congrArg (Value.int .i64) HW.out | rfl), by rw [← HSE.out]; exact (HA.out.set HLN.out (by omega) HST.out).ext ((Ext.refl _).drew)⟩
        case measure => (try simp only [HW.out]); simp [intOf]; omega
    · obtain rfl : k = s.size := by omega
      have hmm : ¬ ((s.size : Nat) : Int) < (s.size : Int) := by omega
      have hml := midW_len s s.size
      rw [midW_end] at HA hml
      have v0 := HA.out.v0
      have v1 := HA.out.v1
      have vl := cell_lt v0
      have hx1 : Ext wr (wr.alloc (.cells #[.int .u64 (IntKind.u64.wrap c), .int .u64 (IntKind.u64.wrap n)] 28)) := by (repeat (first | exact Ext.refl _ | apply Ext.drew_left | apply Ext.drew | apply Ext.alloc))
      obtain ⟨v', w', hrun, ho, hg, hob⟩ := appendG okU (w := wr.alloc (.cells #[.int .u64 (IntKind.u64.wrap c), .int .u64 (IntKind.u64.wrap n)] 28)) (lv := .slice (some ⟨wr.heap.size, 0, none⟩) 2 2) (L := [IntKind.u64.wrap c, IntKind.u64.wrap n]) (HA.out.ext hx1).o ⟨_, 2, rfl, Nat.le_refl _, fun _ => ⟨_, 0, rfl, fun i hi j hj => by
        obtain rfl : j = 0 := by omega
        match i, hi with
        | 0, _ => go_simp; rfl
        | 1, _ => go_simp; rfl⟩⟩ (by simp; omega) (by simp; omega)
      have HB := hid_mk (show WdAt w w' c n v' (wordsK s c n) by
        have h := (HA.out.ext hx1).app hg ho
        unfold wordsK
        rw [List.append_assoc]
        exact h)
      clear ho hg hob hx1
      go_wp2
      go_ret
      exact ⟨_, rfl, HB.out.o.lower (by omega), HB.out.x⟩
theorem wordsK_len (s : ByteArray) (c n : Int) : (wordsK s c n).length ≤ s.size + 4 := by
  unfold wordsK wordsP chunksTo
  simp
  omega
theorem r4Of_any {w : World} (s : ByteArray) (c n : Int) (hz : s.size ≤ 900000000) : Calls Tryd.prog 146 #[.string s, .agg #[.int .i64 c, .int .i64 n]] w fun e w' => e = .returned (.agg #[.int .u64 (lane0 (wordsK s c n)), .int .u64 (lane1 (wordsK s c n))]) ∧ Ext w w' := by
  go_enter Tryd.func146, Tryd.ntmps146
  go_wp2_with fail
  refine gen_callsK (fun W => Ext w W ∧ SumAt W (w.heap.size + 1) 0 0) ⟨by (repeat (first | exact Ext.refl _ | apply Ext.drew_left | apply Ext.drew | apply Ext.alloc)), ⟨by have h := heap_alloc_new (w.alloc (.cells #[.int .i64 c, .int .i64 n] 55)) (.cells #[.int .u64 0, .int .u64 0] 30); rw [World.size_alloc] at h; exact h⟩⟩ ?_
  rintro W ⟨hx, hs⟩
  refine (r4Words_any s c n hz).mono ?_
  rintro e W2 ⟨v, rfl, ho, hx2⟩
  have HX2 := hid_mk (Ext.trans _ _ _ hx hx2)
  have HS2 := hid_mk (hs.ext hx2)
  have HO2 := hid_mk (ho.sl Nat.one_pos (fun _ => rfl))
  obtain ⟨va, vc, rfl⟩ := own_form ho
  have HWL := hid_mk (wordsK_len s c n)
  clear hx hs hx2 ho
  go_wp2_with fail
  refine (r4Lane_any _ _ _ _ (wordsK s c n) _ HO2.out (by have := HWL.out; omega) (.inl ⟨rfl, rfl⟩)).mono ?_
  rintro e W3 ⟨rfl, hx⟩
  have HX3 := hid_mk (Ext.trans _ _ _ HX2.out hx)
  have HS3 := hid_mk (HS2.out.ext hx)
  have HO3 := hid_mk (GSl.ext (f := cU) (k := 1) (fun _ => rfl) HO2.out hx)
  clear hx HX2 HS2 HO2
  go_wp2_with fail
  refine (r4Lane_any _ _ _ _ (wordsK s c n) _ HO3.out (by have := HWL.out; omega) (.inr ⟨rfl, rfl⟩)).mono ?_
  rintro e W4 ⟨rfl, hx⟩
  have HX4 := hid_mk (Ext.trans _ _ _ HX3.out hx)
  have HS4 := hid_mk (HS3.out.ext hx)
  have s0 := HS4.out.c0
  have s1 := HS4.out.c1
  have f0 := HS4.out.f0
  have f1 := HS4.out.f1
  have sl := cell_lt s0
  clear hx HX3 HS3 HO3
  go_wp2
  refine bodyPost_ret (v := .agg #[.int .u64 (lane0 (wordsK s c n)), .int .u64 (lane1 (wordsK s c n))]) (by unfold results; rw [Tryd.results146]; go_simp; first | done | rfl) rfl ⟨rfl, ?_⟩
  exact Xl.ext HX4.out (L := [w.heap.size + 1]) (((Xl.refl W4).set (by simp)).set (by simp)) (by simp)
end Go.Proofs.YtokcgnbjkbhmiaaDoor
