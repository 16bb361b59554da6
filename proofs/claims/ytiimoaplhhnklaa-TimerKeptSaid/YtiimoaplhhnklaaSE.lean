/- Timers: one in memory; what it answers, and Drop. -/
import Derived.Test.YtiimoaplhhnklaaSD
import Derived.Carry
namespace Go.Proofs.Ytiimoaplhhnklaa
open Go.RowKit
set_option maxHeartbeats 4000000
set_option maxRecDepth 100000
set_option linter.unusedSimpArgs false
set_option linter.unusedVariables false
theorem en_TmNew : Enters Try.prog 21 := ⟨_, Try.func21, by kernel_rfl, rfl⟩
theorem en_TmSet : Enters Try.prog 22 := ⟨_, Try.func22, by kernel_rfl, rfl⟩
theorem en_TmDrop : Enters Try.prog 26 := ⟨_, Try.func26, by kernel_rfl, rfl⟩
theorem en_TmAt : Enters Try.prog 23 := ⟨_, Try.func23, by kernel_rfl, rfl⟩
theorem en_TmLen : Enters Try.prog 24 := ⟨_, Try.func24, by kernel_rfl, rfl⟩
theorem en_TmNext : Enters Try.prog 25 := ⟨_, Try.func25, by kernel_rfl, rfl⟩
theorem en_SIns : Enters Try.prog 49 := ⟨_, Try.func49, by kernel_rfl, rfl⟩
theorem en_SDel : Enters Try.prog 50 := ⟨_, Try.func50, by kernel_rfl, rfl⟩
abbrev evI : Int → Value := Value.int .i64
/-- A timer: its map, its row. -/
structure TimerAt (B : Nat) (w : World) (tb mb : Nat) (v : Value) (l : List Al) : Prop where
  blk : w.heap[tb]? = some (.cells #[.map (some mb), v] 104 (0, 0))
  own : OwnA w B 106 v l
  map : ∃ M, MapAt nmV evI w mb M ∧ (M.map (·.1)).Nodup ∧ ∀ n, mget n M = atN n l
  ok : Ok l
  lo : B ≤ tb ∧ B ≤ mb ∧ B ≤ w.heap.size
theorem TimerAt.c0 {B : Nat} {w : World} {tb mb : Nat} {v : Value} {l : List Al} (h : TimerAt B w tb mb v l) : w.cell? ⟨tb, 0, none⟩ = some (.map (some mb)) := by simp [World.cell?, h.blk]
theorem TimerAt.c1 {B : Nat} {w : World} {tb mb : Nat} {v : Value} {l : List Al} (h : TimerAt B w tb mb v l) : w.cell? ⟨tb, 1, none⟩ = some v := by simp [World.cell?, h.blk]
theorem TimerAt.f1 {B : Nat} {w : World} {tb mb : Nat} {v : Value} {l : List Al} (h : TimerAt B w tb mb v l) : w.frozen? ⟨tb, 1, none⟩ = false := by simp [World.frozen?, h.blk]
theorem TimerAt.lt {B : Nat} {w : World} {tb mb : Nat} {v : Value} {l : List Al} (h : TimerAt B w tb mb v l) : tb < w.heap.size ∧ mb < w.heap.size ∧ (∀ g, v.ownBlock = some g → B ≤ g ∧ g < w.heap.size) ∧ tb ≠ mb ∧ v.ownBlock ≠ some tb ∧ v.ownBlock ≠ some mb := by
  obtain ⟨M, ⟨es, clock, hm, -⟩, -, -⟩ := h.map
  have hb := h.blk
  have h1 := (Array.getElem?_eq_some_iff.1 hb).1
  have h2 := (Array.getElem?_eq_some_iff.1 hm).1
  refine ⟨h1, h2, fun g hg => World.ownsRow.lt h.own g hg, ?_, ?_, ?_⟩
  · rintro rfl; rw [hb] at hm; cases hm
  · intro e
    rcases h.own.2 with ⟨e1, -⟩ | ⟨g, cap, cur, e1, -, e2, -⟩
    · rw [e1] at e; cases e
    · rw [e1] at e; cases e; rw [hb] at e2; cases e2
  · intro e
    rcases h.own.2 with ⟨e1, -⟩ | ⟨g, cap, cur, e1, -, e2, -⟩
    · rw [e1] at e; cases e
    · rw [e1] at e; cases e; rw [hm] at e2; cases e2
theorem xl_grown {L : List Nat} {w w' : World} (hx : Xl L w w') {v : Value} (hn : ∀ g, v.ownBlock = some g → g ∉ L) {B : Nat} {ty : TypeId} {l : List Al} (h : OwnA w B ty v l) : OwnA w' B ty v l := by
  rcases h.2 with ⟨e1, e2⟩ | ⟨g, cap, cur, e1, e2, e3, e4⟩
  · exact ⟨h.1, .inl ⟨e1, e2⟩⟩
  · have hg : g ∉ L := hn g (by rw [e1]; rfl)
    exact ⟨h.1, .inr ⟨g, cap, cur, e1, e2, (hx.block g (Array.getElem?_eq_some_iff.1 e3).1 hg).trans e3, e4⟩⟩
theorem MapAt.xl {α β : Type} {ek : α → Value} {ev : β → Value} {L : List Nat} {w w' : World} {b : Nat} {M : List (α × β)} (h : MapAt ek ev w b M) (hx : Xl L w w') (hn : b ∉ L) : MapAt ek ev w' b M := by
  obtain ⟨es, clock, h1, h2⟩ := h
  exact ⟨es, clock, (hx.block b (Array.getElem?_eq_some_iff.1 h1).1 hn).trans h1, h2⟩
theorem TimerAt.keep {B : Nat} {w w' : World} {tb mb : Nat} {v : Value} {l : List Al} {L : List Nat} (h : TimerAt B w tb mb v l) (hx : Xl L w w') (h1 : tb ∉ L) (h2 : mb ∉ L) (h3 : ∀ g, v.ownBlock = some g → g ∉ L) : TimerAt B w' tb mb v l := by
  obtain ⟨M, hm, hnd, hM⟩ := h.map
  exact ⟨(hx.block tb h.lt.1 h1).trans h.blk, xl_grown hx h3 h.own, ⟨M, hm.xl hx h2, hnd, hM⟩, h.ok, h.lo.1, h.lo.2.1, Nat.le_trans h.lo.2.2 hx.size⟩
theorem TimerAt.ext {B : Nat} {w w' : World} {tb mb : Nat} {v : Value} {l : List Al} (h : TimerAt B w tb mb v l) (hx : Ext w w') : TimerAt B w' tb mb v l := h.keep (L := []) (Xl.of hx) (by simp) (by simp) (fun _ _ => by simp)
theorem ownA_at {w : World} {B : Nat} {ty : TypeId} {v : Value} {l : List Al} (h : OwnA w B ty v l) (hp : 0 < l.length) : ∃ g c, v = .slice (some ⟨g, 0, none⟩) l.length c ∧ l.length ≤ c ∧ c ≤ 9223372036854775807 ∧ B ≤ g ∧ g < w.heap.size ∧ AlsAt w g l := by
  obtain ⟨g, c, hv, hc⟩ := own_cell h hp
  have hlt := World.ownsRow.lt h g (by rw [hv]; rfl)
  have k0 : ∀ k, (hk : k < l.length) → ∀ r, r < 4 → ∀ u, (cA l[k])[r]? = some u → w.cell? ⟨g, k * 4 + r, none⟩ = some u := fun k hk r hr u hu => hc _ _ ((flat_get cA 4 (by omega) cA_len l k hk r hr).trans hu)
  rcases h.2 with ⟨h1, -⟩ | ⟨g', cap, cur, h1, h2, h3, h4, h5, -⟩
  · rw [hv] at h1; cases h1
  · rw [hv] at h1; cases h1
    exact ⟨g, c, hv, h4, by unfold maxLen at h5; exact h5, hlt.1, hlt.2, fun i hi => ⟨k0 i hi 0 (by omega) _ rfl, k0 i hi 1 (by omega) _ rfl, k0 i hi 2 (by omega) _ rfl, k0 i hi 3 (by omega) _ rfl⟩⟩
theorem OwnA.sl {w : World} {B : Nat} {ty : TypeId} {v : Value} {l : List Al} (h : OwnA w B ty v l) (hl : l.length ≤ 1000000000000) : AlsSl w v l := by
  rcases Nat.eq_zero_or_pos l.length with h0 | hp
  · rcases h.2 with ⟨e1, e2⟩ | ⟨g, cap, cur, e1, e2, e3, e4, e5, e6⟩
    · exact ⟨none, 0, by rw [e1, h0], by omega, by omega, by omega, fun hp => by omega⟩
    · exact ⟨_, cap, e1, e4, by unfold maxLen at e5; exact e5, hl, fun hp => by omega⟩
  · obtain ⟨g, c, hv, h1, h2, -, -, h3⟩ := ownA_at h hp
    exact ⟨_, c, hv, h1, h2, hl, fun _ => ⟨g, rfl, h3⟩⟩
theorem TimerAt.form {B : Nat} {w : World} {tb mb : Nat} {v : Value} {l : List Al} (h : TimerAt B w tb mb v l) (hl : l.length ≤ 1000000000000) : AlsSl w v l := by
  exact h.own.sl hl
theorem lookT {B : Nat} {w : World} {tb mb : Nat} {v : Value} {l : List Al} (h : TimerAt B w tb mb v l) (n : Nm) : (Instr.lookup 101 (.map (some mb)) (nmV n) true).run Try.prog w = .ok (.tuple #[.int .i64 ((atN n l).getD 0), .bool (atN n l).isSome]) w := by
  obtain ⟨M, hm, hnd, hM⟩ := h.map
  have := map_lookup key_nm Try.underlying101 hm (z := .int .i64 0) (by first | exact Try.zeroValue3 w | kernel_rfl) n true
  rw [this, hM n]
  cases atN n l <;> rfl
theorem tlen_any {B : Nat} {w : World} {tb mb : Nat} {v : Value} {l : List Al} (h : TimerAt B w tb mb v l) :
    Calls Try.prog 24 #[.pointer (some ⟨tb, 0, none⟩)] w fun e w' => e = .returned (.int .i64 (l.length : Int)) ∧ w = w' := by
  have h1 := h.c1
  have hl := cell_lt h1
  obtain ⟨a, c, rfl⟩ := own_form h.own
  clear h
  go_enter Try.func24, Try.ntmps24
  go_wp2
  go_ret
  exact ⟨rfl, rfl⟩
theorem tat_any {B : Nat} {w : World} {tb mb : Nat} {v : Value} {l : List Al} (h : TimerAt B w tb mb v l) (n : Nm) :
    Calls Try.prog 23 #[.pointer (some ⟨tb, 0, none⟩), nmV n] w fun e w' => e = .returned (.tuple #[.int .i64 ((atN n l).getD 0), .bool (atN n l).isSome]) ∧ Ext w w' := by
  have H := hid_mk h
  have h0 := h.c0
  have htl := cell_lt h0
  obtain ⟨g1, hg1⟩ : ∃ g, (atN n l).getD 0 = g := ⟨_, rfl⟩
  obtain ⟨g2, hg2⟩ : ∃ g, (atN n l).isSome = g := ⟨_, rfl⟩
  rw [hg1, hg2]
  have HL := hid_mk (fun (W : World) (hx : Ext w W) => (show (Instr.lookup 101 (.map (some mb)) (nmV n) true).run Try.prog W = .ok (.tuple #[.int .i64 g1, .bool g2]) W by rw [lookT (h.ext hx) n, hg1, hg2]))
  clear h hg1 hg2
  go_enter Try.func23, Try.ntmps23
  go_wp2_with fail
  refine wp_region_held_below (fun _ => true) (.quiet 0 (.quiet 1 (.quiet 2 (.quiet 3 (.quiet 4 (.quiet 5 (.quiet 6 (.quiet 7 (.quiet 8 (.quiet 9 (.quiet 10 .done))))))))))) (by kernel_rfl) (by kernel_rfl) (by intro c a w d v h; cases d <;> exact h) (fun ops HO => ?_)
  refine plan_read _ (hi_of HO rfl) rfl (fun w' hE => by (repeat (with_reducible replace hE := Ext.unD hE)); have hcE := hE.hc; clear hE; go_simp; rfl) ?_
  simp only [Act.put, List.setIfInBounds_toArray, List.set_cons_succ, List.set_cons_zero]
  refine plan_read _ (hi_of HO rfl) rfl (fun w' hE => by (repeat (with_reducible replace hE := Ext.unD hE)); have hcE := hE.hc; clear hE; go_simp; rfl) ?_
  simp only [Act.put, List.setIfInBounds_toArray, List.set_cons_succ, List.set_cons_zero]
  refine plan_read _ (hi_of HO rfl) rfl (fun w' hE => by (repeat (with_reducible replace hE := Ext.unD hE)); have hcE := hE.hc; clear hE; go_simp; rfl) ?_
  simp only [Act.put, List.setIfInBounds_toArray, List.set_cons_succ, List.set_cons_zero]
  refine plan_read _ (hi_of HO rfl) rfl (fun w' hE => by (repeat (with_reducible replace hE := Ext.unD hE)); have hcE := hE.hc; clear hE; go_simp; rfl) ?_
  simp only [Act.put, List.setIfInBounds_toArray, List.set_cons_succ, List.set_cons_zero]
  refine plan_read _ (hi_of HO rfl) rfl (fun w' hE => by (repeat (with_reducible replace hE := Ext.unD hE)); have hcE := hE.hc; clear hE; go_simp; rfl) ?_
  simp only [Act.put, List.setIfInBounds_toArray, List.set_cons_succ, List.set_cons_zero]
  refine plan_read _ (hi_of HO rfl) rfl (fun w' hE => by have hL := HL.out w' (Ext.trans _ _ _ (by (repeat (first | exact Ext.refl _ | apply Ext.drew_left | apply Ext.drew | apply Ext.alloc))) hE); clear hE; go_simp; rfl) ?_
  simp only [Act.put, List.setIfInBounds_toArray, List.set_cons_succ, List.set_cons_zero]
  refine plan_read _ (hi_of HO rfl) rfl (fun w' hE => by (repeat (with_reducible replace hE := Ext.unD hE)); have hcE := hE.hc; clear hE; go_simp; rfl) ?_
  simp only [Act.put, List.setIfInBounds_toArray, List.set_cons_succ, List.set_cons_zero]
  refine plan_read _ (hi_of HO rfl) rfl (fun w' hE => by (repeat (with_reducible replace hE := Ext.unD hE)); have hcE := hE.hc; clear hE; go_simp; rfl) ?_
  simp only [Act.put, List.setIfInBounds_toArray, List.set_cons_succ, List.set_cons_zero]
  refine plan_read _ (hi_of HO rfl) rfl (fun w' hE => by (repeat (with_reducible replace hE := Ext.unD hE)); have hcE := hE.hc; clear hE; go_simp; rfl) ?_
  simp only [Act.put, List.setIfInBounds_toArray, List.set_cons_succ, List.set_cons_zero]
  refine plan_read _ (hi_of HO rfl) rfl (fun w' hE => by (repeat (with_reducible replace hE := Ext.unD hE)); have hcE := hE.hc; clear hE; go_simp; rfl) ?_
  simp only [Act.put, List.setIfInBounds_toArray, List.set_cons_succ, List.set_cons_zero]
  refine plan_read _ (hi_of HO rfl) rfl (fun w' hE => by (repeat (with_reducible replace hE := Ext.unD hE)); have hcE := hE.hc; clear hE; go_simp; rfl) ?_
  simp only [Act.put, List.setIfInBounds_toArray, List.set_cons_succ, List.set_cons_zero]
  refine plan_done ?fin101
  go_wp2
  refine bodyPost_ret (v := .tuple #[.int .i64 g1, .bool g2]) (by unfold results; rw [Try.results23]; go_simp) rfl ⟨rfl, by (repeat (first | exact Ext.refl _ | apply Ext.drew_left | apply Ext.drew | apply Ext.alloc))⟩
theorem xl_realloc {w : World} {o o' : Obj} : Xl [w.heap.size] (w.alloc o).drew (w.alloc o').drew := ⟨rfl, rfl, rfl, by simp, fun k hk hn => by
  have hk' : k < w.heap.size := by
    have h2 : k ≠ w.heap.size := fun e => hn (by simp [e])
    have h1 : k < (w.alloc o).heap.size := hk
    simp at h1
    omega
  have e1 := ((Ext.refl w).alloc o).below.block k hk'
  have e2 := ((Ext.refl w).alloc o').below.block k hk'
  exact e2.trans e1.symm⟩
theorem xl_news {w w' : World} {o : Obj} (h : Xl [w.heap.size] (w.alloc o).drew w') : ∀ b i, b < w.heap.size → w'.cell? ⟨b, i, none⟩ = w.cell? ⟨b, i, none⟩ := fun b i hb => by
  have h1 := h.cell (k := b) (o := i) (by show b < (w.alloc o).heap.size; simp; omega) (by simp; omega)
  have h2 := ((Ext.refl w).alloc o).hc b i hb
  exact h1.trans h2
def nextV (l : List Al) : Value := match l with
  | [] => .tuple #[nmV (0, 0, 0), .int .i64 0, .bool false]
  | x :: _ => .tuple #[nmV x.1, .int .i64 x.2, .bool true]
theorem tnext_any {B : Nat} {w : World} {tb mb : Nat} {v : Value} {l : List Al} (h : TimerAt B w tb mb v l) :
    Calls Try.prog 25 #[.pointer (some ⟨tb, 0, none⟩)] w fun e w' => e = .returned (nextV l) ∧ Ext w w' := by
  have h1 := h.c1
  have htl := cell_lt h1
  match l, h with
  | [], h =>
    obtain ⟨a, c, rfl⟩ := own_form h.own
    simp only [List.length_nil] at h1
    clear h
    go_enter Try.func25, Try.ntmps25
    go_wp2
    refine bodyPost_ret (v := .tuple #[nmV (0, 0, 0), .int .i64 0, .bool false]) (by unfold results; rw [Try.results25]; go_simp) rfl ⟨rfl, by (repeat (first | exact Ext.refl _ | apply Ext.drew_left | apply Ext.drew | apply Ext.alloc | (refine Ext.setX ?_ (by simp))))⟩
  | x :: l, h =>
    obtain ⟨g, c, rfl, hlc, -, -, hgl, hat⟩ := ownA_at h.own (by simp)
    obtain ⟨a0, a1, a2, a3⟩ := hat 0 (by simp)
    simp only [List.getElem_cons_zero, Nat.zero_mul, Nat.zero_add] at a0 a1 a2 a3
    simp only [List.length_cons] at h1 hlc
    have hn0 : ¬ ((l.length : Int) + 1 = 0) := by omega
    have hn1 : (0 : Int) < (l.length : Int) + 1 := by omega
    clear h hat
    go_enter Try.func25, Try.ntmps25
    go_wp2_with fail
    refine wp_region_held_planC (Xl [w.heap.size]) (fun _ => true) (fun i => [0, 1, 2, 4, 5, 7, 8, 9, 11, 12, 15, 16].contains i) (.quiet 0 (.quiet 1 (.quiet 2 (.quiet 3 (.quiet 4 (.quiet 5 (.quiet 6 (.quiet 7 (.quiet 8 (.quiet 9 (.quiet 10 (.quiet 11 (.quiet 12 (.quiet 13 (.alt 14 (.quiet 15 (.quiet 16 .done)) .stop))))))))))))))) (by kernel_rfl) (by kernel_rfl) Xl.refl Xl.trans (by intro c a w d v h; cases d <;> exact h) (fun ops HO => ?_)
    refine planC_calm _ (hi_of HO rfl) rfl (fun w' => by go_simp; rfl) ?_
    simp only [Act.put, List.setIfInBounds_toArray, List.set_cons_succ, List.set_cons_zero]
    refine planC_calm _ (hi_of HO rfl) rfl (fun w' => by go_simp; rfl) ?_
    simp only [Act.put, List.setIfInBounds_toArray, List.set_cons_succ, List.set_cons_zero]
    refine planC_calm _ (hi_of HO rfl) rfl (fun w' => by go_simp; rfl) ?_
    simp only [Act.put, List.setIfInBounds_toArray, List.set_cons_succ, List.set_cons_zero]
    refine planC_read _ (hi_of HO rfl) rfl rfl (fun w' hE => by have hcE := xl_news hE; clear hE; go_simp; rfl) ?_
    simp only [Act.put, List.setIfInBounds_toArray, List.set_cons_succ, List.set_cons_zero]
    refine planC_calm _ (hi_of HO rfl) rfl (fun w' => by go_simp; rfl) ?_
    simp only [Act.put, List.setIfInBounds_toArray, List.set_cons_succ, List.set_cons_zero]
    refine planC_calm _ (hi_of HO rfl) rfl (fun w' => by go_simp; rfl) ?_
    simp only [Act.put, List.setIfInBounds_toArray, List.set_cons_succ, List.set_cons_zero]
    refine planC_read _ (hi_of HO rfl) rfl rfl (fun w' hE => by have hcE := xl_news hE; clear hE; go_simp; rfl) ?_
    simp only [Act.put, List.setIfInBounds_toArray, List.set_cons_succ, List.set_cons_zero]
    refine planC_calm _ (hi_of HO rfl) rfl (fun w' => by go_simp; rfl) ?_
    simp only [Act.put, List.setIfInBounds_toArray, List.set_cons_succ, List.set_cons_zero]
    refine planC_calm _ (hi_of HO rfl) rfl (fun w' => by go_simp; rfl) ?_
    simp only [Act.put, List.setIfInBounds_toArray, List.set_cons_succ, List.set_cons_zero]
    refine planC_calm _ (hi_of HO rfl) rfl (fun w' => by go_simp; rfl) ?_
    simp only [Act.put, List.setIfInBounds_toArray, List.set_cons_succ, List.set_cons_zero]
    refine planC_read _ (hi_of HO rfl) rfl rfl (fun w' hE => by have hcE := xl_news hE; clear hE; go_simp; rfl) ?_
    simp only [Act.put, List.setIfInBounds_toArray, List.set_cons_succ, List.set_cons_zero]
    refine planC_calm _ (hi_of HO rfl) rfl (fun w' => by go_simp; rfl) ?_
    simp only [Act.put, List.setIfInBounds_toArray, List.set_cons_succ, List.set_cons_zero]
    refine planC_calm _ (hi_of HO rfl) rfl (fun w' => by go_simp; rfl) ?_
    simp only [Act.put, List.setIfInBounds_toArray, List.set_cons_succ, List.set_cons_zero]
    refine planC_read _ (hi_of HO rfl) rfl rfl (fun w' hE => by have hcE := xl_news hE; clear hE; go_simp; rfl) ?_
    simp only [Act.put, List.setIfInBounds_toArray, List.set_cons_succ, List.set_cons_zero]
    refine planC_loud1 (hi_of HO rfl) rfl ?_
    go_simp
    refine ⟨xl_realloc, ?_⟩
    refine planC_calm _ (hi_of HO rfl) rfl (fun w' => by go_simp; rfl) ?_
    simp only [Act.put, List.setIfInBounds_toArray, List.set_cons_succ, List.set_cons_zero]
    refine planC_calm _ (hi_of HO rfl) rfl (fun w' => by go_simp; rfl) ?_
    simp only [Act.put, List.setIfInBounds_toArray, List.set_cons_succ, List.set_cons_zero]
    refine planC_done ?fin102
    go_wp2
    refine bodyPost_ret (v := .tuple #[nmV x.1, .int .i64 x.2, .bool true]) (by unfold results; rw [Try.results25]; go_simp) rfl ⟨rfl, by (repeat (first | exact Ext.refl _ | apply Ext.drew_left | apply Ext.drew | apply Ext.alloc | (refine Ext.setX ?_ (by simp))))⟩
theorem tnew_any (w : World) : Calls Try.prog 21 #[] w fun e w' => ∃ tb mb, e = .returned (.pointer (some ⟨tb, 0, none⟩)) ∧ w.heap.size ≤ tb ∧ w.heap.size ≤ mb ∧ TimerAt w.heap.size w' tb mb (.slice none 0 0) [] ∧ Ext w w' := by
  have hmm := @run_makeMap Try.prog
  go_enter Try.func21, Try.ntmps21
  go_wp2
  go_ret
  have hx : Ext w ((w.alloc (.map #[] 0)).alloc (.cells #[.map (some w.heap.size), .slice none 0 0] 104)) := by (repeat (first | exact Ext.refl _ | apply Ext.drew_left | apply Ext.drew | apply Ext.alloc))
  refine ⟨w.heap.size + 1, w.heap.size, rfl, by omega, Nat.le_refl _, ⟨?_, ⟨rfl, .inl ⟨rfl, rfl⟩⟩, ⟨[], ⟨#[], 0, ?_, rfl⟩, by simp, fun n => rfl⟩, ok_nil, ⟨by omega, Nat.le_refl _, hx.below.size⟩⟩, hx⟩
  · have h := heap_alloc_new (w.alloc (.map #[] 0)) (.cells #[.map (some w.heap.size), .slice none 0 0] 104)
    rw [show (w.alloc (.map #[] 0)).heap.size = w.heap.size + 1 by simp] at h
    exact h
  · have h1 := heap_alloc_new w (.map #[] 0)
    exact ((Ext.refl (w.alloc (.map #[] 0))).alloc _).below.block w.heap.size (by simp) |>.trans h1
end Go.Proofs.Ytiimoaplhhnklaa
