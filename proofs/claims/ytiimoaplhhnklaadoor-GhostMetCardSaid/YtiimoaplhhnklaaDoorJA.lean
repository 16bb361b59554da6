/- Judging: which of two entries is best; what a list may be; what a Config may be. -/
import Derived.Test.YtiimoaplhhnklaaDoorHS
import Derived.Test.YtiimoaplhhnklaaDoorHH
namespace Go.Proofs.YtiimoaplhhnklaaDoor
open Go.RowKit
set_option maxHeartbeats 4000000
set_option maxRecDepth 100000
set_option linter.unusedSimpArgs false
set_option linter.unusedVariables false
theorem en_mThere : Enters Tryd.prog 29 := ⟨_, Tryd.func29, by kernel_rfl, rfl⟩
theorem en_r9None : Enters Tryd.prog 36 := ⟨_, Tryd.func36, by kernel_rfl, rfl⟩
theorem en_iBest : Enters Tryd.prog 33 := ⟨_, Tryd.func33, by kernel_rfl, rfl⟩
theorem en_r3Best : Enters Tryd.prog 37 := ⟨_, Tryd.func37, by kernel_rfl, rfl⟩
theorem en_rHeld : Enters Tryd.prog 21 := ⟨_, Tryd.func21, by kernel_rfl, rfl⟩
theorem en_rRight : Enters Tryd.prog 22 := ⟨_, Tryd.func22, by kernel_rfl, rfl⟩
theorem neq_ver (w : World) (c n c' n' : Int) : (binOp .neq 53 (.agg #[.int .i64 c, .int .i64 n]) (.agg #[.int .i64 c', .int .i64 n'])).run Tryd.prog w = .ok (.bool (decide (¬ (c = c' ∧ n = n')))) w := by
  go_simp
  by_cases h1 : c = c' <;> by_cases h2 : n = n' <;> simp [*]
attribute [local go_sem ↓] eql_ver neq_ver
theorem gen_callsJ {P : Program} {f : FuncId} {args : Array Value} {w : World} {Q : Ending → World → Prop} (R : World → Prop) (h0 : R w) (h : ∀ W, R W → Calls P f args W Q) : Calls P f args w Q := h w h0
def thereE (e : Ent) : Bool := !decide (e.ctr = 0) || !decide (e.node = 0)
theorem there_any (e : Ent) (w : World) : Calls Tryd.prog 29 #[entV e] w fun r w' => r = .returned (.bool (thereE e)) ∧ Ext w w' := by
  unfold thereE
  go_enter Tryd.func29, Tryd.ntmps29
  go_wp2
  go_ret
  exact ⟨rfl, by (repeat (first | exact Ext.refl _ | apply Ext.drew_left | apply Ext.drew | apply Ext.alloc))⟩
theorem none_any (e : Ent) (w : World) : Calls Tryd.prog 36 #[entV e] w fun r w' => r = .returned (.bool (decide (e.ctr = 0))) ∧ Ext w w' := by
  go_enter Tryd.func36, Tryd.ntmps36
  go_wp2
  go_ret
  exact ⟨rfl, by (repeat (first | exact Ext.refl _ | apply Ext.drew_left | apply Ext.drew | apply Ext.alloc))⟩
def bestE (a b : Ent) : Ent := if newer b a = true then b else a
theorem iBest_any (a b : Ent) (w : World) : Calls Tryd.prog 33 #[entV a, entV b] w fun r w' => r = .returned (entV (bestE a b)) ∧ Ext w w' := by
  obtain ⟨nw, hnw⟩ : ∃ nw, newer b a = nw := ⟨_, rfl⟩
  have HN := hid_mk (show (if nw = true then b else a) = bestE a b by rw [← hnw]; rfl)
  have HNW := hid_mk hnw
  obtain ⟨r, hr⟩ : ∃ r, bestE a b = r := ⟨_, rfl⟩
  rw [hr] at HN ⊢
  clear hr hnw
  go_enter Tryd.func33, Tryd.ntmps33
  go_wp2_with fail
  refine gen_callsJ (fun W => Ext w W ∧ EntAt W w.heap.size 0 a ∧ EntAt W (w.heap.size + 1) 0 b ∧ W.heap[w.heap.size + 1 + 1]? = some (.cells #[.string ⟨#[]⟩, .int .i64 0, .int .i64 0, .string ⟨#[]⟩, .bool false] 55 (0, 0))) ⟨by (repeat (first | exact Ext.refl _ | apply Ext.drew_left | apply Ext.drew | apply Ext.alloc)), ⟨by go_simp, by go_simp, by go_simp, by go_simp, by go_simp⟩, ⟨by go_simp, by go_simp, by go_simp, by go_simp, by go_simp⟩, by have h := heap_alloc_new ((w.alloc (.cells #[.string a.key, .int .i64 a.ctr, .int .i64 a.node, .string a.val, .bool a.dead] 55)).alloc (.cells #[.string b.key, .int .i64 b.ctr, .int .i64 b.node, .string b.val, .bool b.dead] 55)) (.cells #[.string ⟨#[]⟩, .int .i64 0, .int .i64 0, .string ⟨#[]⟩, .bool false] 55); simpa only [World.size_alloc] using h⟩ ?_
  rintro W1 ⟨hx1, ha1, hb1, hc1⟩
  have HX1 := hid_mk hx1
  have HAB := hid_mk (And.intro ha1 (And.intro hb1 hc1))
  clear hx1 ha1 hb1 hc1
  refine (iNewer_any b a W1).mono ?_
  rintro e W2 ⟨rfl, hx2⟩
  rw [HNW.out]
  have HX2 := hid_mk (Ext.trans _ _ _ HX1.out hx2)
  obtain ⟨a0, a1, a2, a3, a4⟩ := HAB.out.1.ext hx2
  obtain ⟨b0, b1, b2, b3, b4⟩ := HAB.out.2.1.ext hx2
  have hcb := (hx2.below.block _ (Array.getElem?_eq_some_iff.1 HAB.out.2.2).1).trans HAB.out.2.2
  have hcl : w.heap.size + 1 + 1 < W2.heap.size := (Array.getElem?_eq_some_iff.1 hcb).1
  have z0 : ∀ i, i < 5 → W2.frozen? ⟨w.heap.size + 1 + 1, i, none⟩ = false := fun i _ => by simp [World.frozen?, hcb]
  have c0 : W2.cell? ⟨w.heap.size + 1 + 1, 0, none⟩ = some (.string ⟨#[]⟩) := by simp [World.cell?, hcb]
  have c1 : W2.cell? ⟨w.heap.size + 1 + 1, 1, none⟩ = some (.int .i64 0) := by simp [World.cell?, hcb]
  have c2 : W2.cell? ⟨w.heap.size + 1 + 1, 2, none⟩ = some (.int .i64 0) := by simp [World.cell?, hcb]
  have c3 : W2.cell? ⟨w.heap.size + 1 + 1, 3, none⟩ = some (.string ⟨#[]⟩) := by simp [World.cell?, hcb]
  have c4 : W2.cell? ⟨w.heap.size + 1 + 1, 4, none⟩ = some (.bool false) := by simp [World.cell?, hcb]
  have f0 := z0 0 (by omega)
  have f1 := z0 1 (by omega)
  have f2 := z0 2 (by omega)
  have f3 := z0 3 (by omega)
  have f4 := z0 4 (by omega)
  have hl0 := cell_lt a0
  have hl1 := cell_lt b0
  clear hx2 z0 hcb
  cases nw with
  | true =>
    obtain rfl : b = r := HN.out
    go_wp2
    refine bodyPost_ret (v := entV b) (by unfold results; rw [Tryd.results33]; go_simp; first | done | rfl) rfl ⟨rfl, ?_⟩
    exact Xl.ext HX2.out (L := [w.heap.size + 1 + 1]) ((((((Xl.refl W2).set (by simp)).set (by simp)).set (by simp)).set (by simp)).set (by simp)) (by simp; omega)
  | false =>
    obtain rfl : a = r := HN.out
    go_wp2
    refine bodyPost_ret (v := entV a) (by unfold results; rw [Tryd.results33]; go_simp; first | done | rfl) rfl ⟨rfl, ?_⟩
    exact Xl.ext HX2.out (L := [w.heap.size + 1 + 1]) ((((((Xl.refl W2).set (by simp)).set (by simp)).set (by simp)).set (by simp)).set (by simp)) (by simp; omega)
theorem r3Best_any (a b : Ent) (w : World) : Calls Tryd.prog 37 #[entV a, entV b] w fun r w' => r = .returned (entV (bestE a b)) ∧ Ext w w' := by
  obtain ⟨nw, hnw⟩ : ∃ nw, newer b a = nw := ⟨_, rfl⟩
  have HN := hid_mk (show (if nw = true then b else a) = bestE a b by rw [← hnw]; rfl)
  have HNW := hid_mk hnw
  obtain ⟨r, hr⟩ : ∃ r, bestE a b = r := ⟨_, rfl⟩
  rw [hr] at HN ⊢
  clear hr hnw
  go_enter Tryd.func37, Tryd.ntmps37
  go_wp2_with fail
  refine gen_callsJ (fun W => Ext w W ∧ EntAt W w.heap.size 0 a ∧ EntAt W (w.heap.size + 1) 0 b ∧ W.heap[w.heap.size + 1 + 1]? = some (.cells #[.string ⟨#[]⟩, .int .i64 0, .int .i64 0, .string ⟨#[]⟩, .bool false] 55 (0, 0))) ⟨by (repeat (first | exact Ext.refl _ | apply Ext.drew_left | apply Ext.drew | apply Ext.alloc)), ⟨by go_simp, by go_simp, by go_simp, by go_simp, by go_simp⟩, ⟨by go_simp, by go_simp, by go_simp, by go_simp, by go_simp⟩, by have h := heap_alloc_new ((w.alloc (.cells #[.string a.key, .int .i64 a.ctr, .int .i64 a.node, .string a.val, .bool a.dead] 55)).alloc (.cells #[.string b.key, .int .i64 b.ctr, .int .i64 b.node, .string b.val, .bool b.dead] 55)) (.cells #[.string ⟨#[]⟩, .int .i64 0, .int .i64 0, .string ⟨#[]⟩, .bool false] 55); simpa only [World.size_alloc] using h⟩ ?_
  rintro W1 ⟨hx1, ha1, hb1, hc1⟩
  have HX1 := hid_mk hx1
  have HAB := hid_mk (And.intro ha1 (And.intro hb1 hc1))
  clear hx1 ha1 hb1 hc1
  refine (r3Newer_any b a W1).mono ?_
  rintro e W2 ⟨rfl, hx2⟩
  rw [HNW.out]
  have HX2 := hid_mk (Ext.trans _ _ _ HX1.out hx2)
  obtain ⟨a0, a1, a2, a3, a4⟩ := HAB.out.1.ext hx2
  obtain ⟨b0, b1, b2, b3, b4⟩ := HAB.out.2.1.ext hx2
  have hcb := (hx2.below.block _ (Array.getElem?_eq_some_iff.1 HAB.out.2.2).1).trans HAB.out.2.2
  have hcl : w.heap.size + 1 + 1 < W2.heap.size := (Array.getElem?_eq_some_iff.1 hcb).1
  have z0 : ∀ i, i < 5 → W2.frozen? ⟨w.heap.size + 1 + 1, i, none⟩ = false := fun i _ => by simp [World.frozen?, hcb]
  have c0 : W2.cell? ⟨w.heap.size + 1 + 1, 0, none⟩ = some (.string ⟨#[]⟩) := by simp [World.cell?, hcb]
  have c1 : W2.cell? ⟨w.heap.size + 1 + 1, 1, none⟩ = some (.int .i64 0) := by simp [World.cell?, hcb]
  have c2 : W2.cell? ⟨w.heap.size + 1 + 1, 2, none⟩ = some (.int .i64 0) := by simp [World.cell?, hcb]
  have c3 : W2.cell? ⟨w.heap.size + 1 + 1, 3, none⟩ = some (.string ⟨#[]⟩) := by simp [World.cell?, hcb]
  have c4 : W2.cell? ⟨w.heap.size + 1 + 1, 4, none⟩ = some (.bool false) := by simp [World.cell?, hcb]
  have f0 := z0 0 (by omega)
  have f1 := z0 1 (by omega)
  have f2 := z0 2 (by omega)
  have f3 := z0 3 (by omega)
  have f4 := z0 4 (by omega)
  have hl0 := cell_lt a0
  have hl1 := cell_lt b0
  clear hx2 z0 hcb
  cases nw with
  | true =>
    obtain rfl : b = r := HN.out
    go_wp2
    refine bodyPost_ret (v := entV b) (by unfold results; rw [Tryd.results37]; go_simp; first | done | rfl) rfl ⟨rfl, ?_⟩
    exact Xl.ext HX2.out (L := [w.heap.size + 1 + 1]) ((((((Xl.refl W2).set (by simp)).set (by simp)).set (by simp)).set (by simp)).set (by simp)) (by simp; omega)
  | false =>
    obtain rfl : a = r := HN.out
    go_wp2
    refine bodyPost_ret (v := entV a) (by unfold results; rw [Tryd.results37]; go_simp; first | done | rfl) rfl ⟨rfl, ?_⟩
    exact Xl.ext HX2.out (L := [w.heap.size + 1 + 1]) ((((((Xl.refl W2).set (by simp)).set (by simp)).set (by simp)).set (by simp)).set (by simp)) (by simp; omega)
/-- May a node hold these? -/
def heldE (l : List Ent) : Int := if mChk l = 0 ∧ 256 < l.length then 80 else mChk l
theorem rfheld_any {w : World} (v : Value) (l : List Ent) (hs : EntSl w v l) : Calls Tryd.prog 21 #[v] w fun r w' => r = .returned (.int .i64 (heldE l)) ∧ Ext w w' := by
  have HS := hid_mk hs
  obtain ⟨a, c, rfl, -⟩ := hs
  obtain ⟨z, hz⟩ : ∃ z, mChk l = z := ⟨_, rfl⟩
  have HZ := hid_mk hz
  obtain ⟨r, hr⟩ : ∃ r, heldE l = r := ⟨_, rfl⟩
  have HR := hid_mk (show (if z = 0 ∧ 256 < l.length then 80 else z) = r by rw [← hr, ← hz]; rfl)
  rw [hr]
  clear hz hr
  go_enter Tryd.func21, Tryd.ntmps21
  go_wp2_with fail
  refine (r9Check_any l _ _ HS.out).mono ?_
  rintro e w1 ⟨rfl, hx1⟩
  rw [HZ.out]
  have HX1 := hid_mk hx1
  clear hx1
  by_cases h0 : z = 0
  · subst h0
    by_cases hl : 256 < l.length
    · have hl' : (256 : Int) < (l.length : Int) := by omega
      rw [if_pos ⟨rfl, hl⟩] at HR
      clear hl
      go_wp2
      go_ret
      exact ⟨ret_int HR.out, HX1.out⟩
    · have hl' : ¬ (256 : Int) < (l.length : Int) := by omega
      rw [if_neg (by rintro ⟨-, h⟩; exact hl h)] at HR
      clear hl
      go_wp2
      go_ret
      exact ⟨ret_int HR.out, HX1.out⟩
  · have hb : (z == 0) = false := by rw [beq_eq_false_iff_ne]; exact h0
    rw [if_neg (by rintro ⟨h, -⟩; exact h0 h)] at HR
    go_wp2
    all_goals go_ret
    all_goals exact ⟨ret_int HR.out, HX1.out⟩
def rightB (b l : Int) : Bool := decide (2 ≤ b ∧ b ≤ 16 ∧ 1 ≤ l ∧ l ≤ 32)
theorem rright_any (b l : Int) (w : World) : Calls Tryd.prog 22 #[.int .i64 b, .int .i64 l] w fun r w' => r = .returned (.bool (rightB b l)) ∧ Ext w w' := by
  unfold rightB
  go_enter Tryd.func22, Tryd.ntmps22
  go_wp2
  all_goals go_ret
  all_goals exact ⟨ret_bool (by simp_all; try (intros; omega)), by (repeat (first | exact Ext.refl _ | apply Ext.drew_left | apply Ext.drew | apply Ext.alloc))⟩
end Go.Proofs.YtiimoaplhhnklaaDoor
