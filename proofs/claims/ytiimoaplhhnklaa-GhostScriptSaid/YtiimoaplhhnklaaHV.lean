/- Ghosts: what is lent, and whether it is as it was; how much a script weighs. -/
import Derived.Test.YtiimoaplhhnklaaHU
namespace Go.Proofs.Ytiimoaplhhnklaa
open Go.RowKit
set_option maxHeartbeats 8000000
set_option maxRecDepth 100000
set_option linter.unusedSimpArgs false
set_option linter.unusedVariables false
attribute [-go_sem] Builtin.append_
attribute [local go_sem ↓] eql_entE neq_entE

def markE : Ent := ⟨⟨#[109, 97, 114, 107]⟩, 0, 0, ⟨#[]⟩, false⟩
def behindE : Ent := ⟨⟨#[98, 101, 104, 105, 110, 100]⟩, 0, 0, ⟨#[]⟩, false⟩
def gmarks : List Ent := [markE, behindE]
theorem ghLent_any {w : World} (l : List Ent) (lv : Value) (hs : EntSl w lv l) (hl : l.length ≤ 100000000) :
    Calls Try.prog 35 #[lv] w fun e w' => ∃ v, e = .returned v ∧ OwEn w' w.heap.size v (l ++ gmarks) ∧ Ext w w' := by
  have hx1 : Ext w (w.alloc (.cells #[] 31)) := by (repeat (first | exact Ext.refl _ | apply Ext.drew_left | apply Ext.drew | apply Ext.alloc))
  have HE0 := hid_mk (show OwEn (w.alloc (.cells #[] 31)) w.heap.size (.slice (some ⟨w.heap.size, 0, none⟩) 0 0) [] from ownE_empty (heap_alloc_new w _) (Nat.le_refl _))
  obtain ⟨v1, w1, hrun1, ho1, hg1, -⟩ := appendE HE0.out (hs.ext hx1) (by simp; omega) (by simp)
  rw [List.nil_append] at ho1
  have hxw1 : Ext w w1 := ext_grown (base := w.heap.size) (e := 31) (size := 5) (n := 0) (xs := []) hx1 hg1 HE0.out (Nat.le_refl _)
  have hx2 : Ext w1 (w1.alloc (.cells #[.string ⟨#[109, 97, 114, 107]⟩, .int .i64 0, .int .i64 0, .string ⟨#[]⟩, .bool false, .string ⟨#[98, 101, 104, 105, 110, 100]⟩, .int .i64 0, .int .i64 0, .string ⟨#[]⟩, .bool false] 31)) := by (repeat (first | exact Ext.refl _ | apply Ext.drew_left | apply Ext.drew | apply Ext.alloc))
  obtain ⟨v2, w2, hrun2, ho2, hg2, -⟩ := appendE (ho1.ext hx2) (lv := .slice (some ⟨w1.heap.size, 0, none⟩) 2 2) (L := gmarks) ⟨_, 2, rfl, Nat.le_refl _, by simp [gmarks], fun _ => ⟨_, 0, rfl, fun i hi => by
    match i, hi with
    | 0, _ => exact ⟨by go_simp; rfl, by go_simp; rfl, by go_simp; rfl, by go_simp; rfl, by go_simp; rfl⟩
    | 1, _ => exact ⟨by go_simp; rfl, by go_simp; rfl, by go_simp; rfl, by go_simp; rfl, by go_simp; rfl⟩⟩⟩ (by simp [gmarks]; omega) (by have := hxw1.below.size; simp; omega)
  have hxw2 : Ext w w2 := ext_grown (Ext.trans _ _ _ hxw1 hx2) hg2 (ho1.ext hx2) (Nat.le_refl _)
  have HF := hid_mk (And.intro ho2 hxw2)
  obtain ⟨la, lc, rfl, -⟩ := hs
  obtain ⟨a1, c1, rfl⟩ := own_form ho1
  obtain ⟨a2, c2, rfl⟩ := own_form ho2
  rw [show (l ++ gmarks).length = l.length + 2 by simp [gmarks]] at hrun2 HF
  clear ho1 ho2 hg1 hg2 hx1 hx2 hxw1 hxw2
  go_enter Try.func35, Try.ntmps35
  go_wp2
  go_ret
  exact ⟨_, rfl, HF.out.1, HF.out.2⟩
theorem OwEn.shp {B : Nat} {w : World} {v : Value} {l : List Ent} (h : OwEn w B v l) : Shp B w 31 5 v := by
  rcases h.2 with ⟨e1, e2⟩ | ⟨g, cap, cur, e1, e2, e3, e4, e5, e6, e7⟩
  · rw [e1]; exact Shp.zero
  · exact ⟨_, _, cap, e1, e4, .inr ⟨g, cur, rfl, e2, e3, e6, e5⟩⟩
theorem ghStill_any {B : Nat} {w : World} {v lv : Value} {l : List Ent} (h : OwEn w B v (l ++ gmarks)) (hs : EntSl w lv l) (hl : l.length ≤ 100000000) (hB : B ≤ w.heap.size) :
    Calls Try.prog 37 #[v, lv] w fun e w' => e = .returned (.bool true) ∧ Xl v.ownBlock.toList w w' := by
  obtain ⟨g, c, rfl, h1, h2, h3, h4, h5⟩ := ownE_at h (by simp [gmarks])
  have hlen : (l ++ gmarks).length = l.length + 2 := by simp [gmarks]
  have HSH := hid_mk h.shp
  obtain ⟨m0, -, -, -, -⟩ := h5 l.length (by omega)
  obtain ⟨m1, -, -, -, -⟩ := h5 (l.length + 1) (by omega)
  rw [show (l ++ gmarks)[l.length]'(by omega) = markE by simp [gmarks]] at m0
  rw [show (l ++ gmarks)[l.length + 1]'(by omega) = behindE by simp [gmarks]] at m1
  dsimp only [markE, behindE] at m0 m1
  have HPRE := hid_mk (show EntSl w (.slice (some ⟨g, 0, none⟩) l.length c) l from ⟨_, c, rfl, by omega, by omega, fun hp => ⟨g, 0, rfl, fun i hi => by
    have := h5 i (by omega)
    rw [List.getElem_append_left hi] at this
    rw [Nat.zero_add]
    exact this⟩⟩)
  rw [hlen] at h1 HSH ⊢
  have HS := hid_mk hs
  obtain ⟨la, lc, rfl, -⟩ := hs
  have hgl := cell_lt m0
  have hw2 : wrap64 ((l.length : Int) + 2 - 2) = (l.length : Int) := by rw [show (l.length : Int) + 2 - 2 = l.length by omega]; exact w64in (by omega)
  have hw3 : wrap64 ((l.length : Int) + 1) = (l.length : Int) + 1 := w64in (by omega)
  have HW2 := hid_mk hw2
  have HW3 := hid_mk hw3
  clear h h5 hlen hw2 hw3
  go_enter Try.func37, Try.ntmps37
  go_wp2_with fail
  refine (ghSame_any _ _ l l HPRE.out HS.out).mono ?_
  rintro e w1 ⟨rfl, hx1⟩
  rw [show decide (l = l) = true from decide_eq_true rfl]
  replace m0 := cell_ext hx1 m0
  replace m1 := cell_ext hx1 m1
  replace hgl := cell_lt m0
  have HX1 := hid_mk hx1
  have HSH1 := hid_mk (HSH.out.ext hx1)
  have q1 : (0 : Int) ≤ (l.length : Int) := by omega
  have q2 : (l.length : Int) < (l.length : Int) + 2 := by omega
  have q3 : (0 : Int) ≤ (l.length : Int) + 1 := by omega
  have q4 : (l.length : Int) + 1 < (l.length : Int) + 2 := by omega
  clear hx1
  go_wp2_with fail
  go_loopw [7] (fun i wr => ∃ k : Nat, k ≤ l.length + 2 ∧ i = .int .i64 (k : Int) ∧ Shp B wr 31 5 (.slice (some ⟨g, 0, none⟩) (l.length + 2) c) ∧ Xl [g] w wr) (fun i _ => l.length + 2 - (intOf i).toNat)
  case atStart => exact ⟨0, Nat.zero_le _, rfl, HSH1.out, Xl.of HX1.out⟩
  case round =>
    clear m0 m1 hgl
    obtain ⟨k, hk, rfl, hsh, hx⟩ := hrel
    have HS2 := hid_mk hsh
    have HX := hid_mk hx
    clear hsh hx
    by_cases hlt : k < l.length + 2
    · obtain ⟨S, cur, eS, hSB, hSH, hc⟩ := shp_cells5 HS2.out hlt
      cases eS
      obtain ⟨⟨v0, k0⟩, z0⟩ := hc 0 (by omega)
      obtain ⟨⟨v1, k1⟩, z1⟩ := hc 1 (by omega)
      obtain ⟨⟨v2, k2⟩, z2⟩ := hc 2 (by omega)
      obtain ⟨⟨v3, k3⟩, z3⟩ := hc 3 (by omega)
      obtain ⟨⟨v4, k4⟩, z4⟩ := hc 4 (by omega)
      simp only [Nat.add_zero] at k0 z0
      have hSl := cell_lt k0
      have hk1 : (k : Int) < (l.length : Int) + 2 := by omega
      have hk00 : (0 : Int) ≤ (k : Int) := by omega
      have HW := hid_mk (show wrap64 ((k : Int) + 1) = (k : Int) + 1 from w64in (by omega))
      clear hc hSH
      go_wp2
      go_roundw
      case rel => exact ⟨k + 1, hlt, (by first | exact congrArg (Value.int .i64) HW.out | rfl), ((((HS2.out.set).set).set).set).set, ((((HX.out.set (by simp)).set (by simp)).set (by simp)).set (by simp)).set (by simp)⟩
      case measure => (try simp only [HW.out]); simp [intOf]; omega
    · obtain rfl : k = l.length + 2 := by omega
      have hmm : ¬ (((l.length + 2 : Nat)) : Int) < (l.length : Int) + 2 := by omega
      have hmm2 : ¬ ((l.length : Int) + 2) < (l.length : Int) + 2 := by omega
      go_wp2
      go_ret
      exact ⟨rfl, by simpa [Value.ownBlock] using HX.out⟩
/-- An op of a script. -/
structure GOp where
  k : Int
  nd : Int
  e : Ent
  lv : Value
  l : List Ent
  snd : Bool
instance : Inhabited GOp := ⟨⟨0, 0, zE, undef, [], false⟩⟩
abbrev gopV (o : GOp) : Value := .agg #[.int .i64 o.k, .int .i64 o.nd, .string o.e.key, .int .i64 o.e.ctr, .int .i64 o.e.node, .string o.e.val, .bool o.e.dead, o.lv, .bool o.snd]
structure GOpO (w : World) (b o : Nat) (x : GOp) : Prop where
  c0 : w.cell? ⟨b, o, none⟩ = some (.int .i64 x.k)
  c1 : w.cell? ⟨b, o + 1, none⟩ = some (.int .i64 x.nd)
  c2 : w.cell? ⟨b, o + 2, none⟩ = some (.string x.e.key)
  c3 : w.cell? ⟨b, o + 3, none⟩ = some (.int .i64 x.e.ctr)
  c4 : w.cell? ⟨b, o + 4, none⟩ = some (.int .i64 x.e.node)
  c5 : w.cell? ⟨b, o + 5, none⟩ = some (.string x.e.val)
  c6 : w.cell? ⟨b, o + 6, none⟩ = some (.bool x.e.dead)
  c7 : w.cell? ⟨b, o + 7, none⟩ = some x.lv
  c8 : w.cell? ⟨b, o + 8, none⟩ = some (.bool x.snd)
  sl : EntSl w x.lv x.l
theorem GOpO.ext {w w' : World} {b o : Nat} {x : GOp} (h : GOpO w b o x) (hx : Ext w w') : GOpO w' b o x := ⟨cell_ext hx h.c0, cell_ext hx h.c1, cell_ext hx h.c2, cell_ext hx h.c3, cell_ext hx h.c4, cell_ext hx h.c5, cell_ext hx h.c6, cell_ext hx h.c7, cell_ext hx h.c8, h.sl.ext hx⟩
def GOpsSl (w : World) (v : Value) (N : List GOp) : Prop := ∃ a c, v = .slice a N.length c ∧ N.length ≤ c ∧ N.length ≤ 4611686018427387904 ∧ (0 < N.length → ∃ b o, a = some ⟨b, o, none⟩ ∧ ∀ i, (h : i < N.length) → GOpO w b (o + i * 9) N[i])
theorem ghBeyond_any {w : World} (v : Value) (N : List GOp) (hs : GOpsSl w v N) :
    Calls Try.prog 9 #[v] w fun e w' => ∃ r : Bool, e = .returned (.bool r) ∧ (r = false → N.length ≤ 4194304 ∧ ∀ x ∈ N, x.l.length ≤ 4194304) ∧ Ext w w' := by
  obtain ⟨a, c, rfl, hac, ha63, hca⟩ := hs
  have HC := hid_mk hca
  clear hca
  go_enter Try.func9, Try.ntmps9
  go_wp2
  go_loopw [3, 4] (fun s i wr => ∃ k : Nat, ∃ n : Int, k ≤ N.length ∧ i = .int .i64 (k : Int) ∧ s = .int .i64 n ∧ (k : Int) ≤ n ∧ n ≤ 8000000000 ∧ (n < 4194304 → ∀ x ∈ N.take k, x.l.length ≤ 4194304) ∧ Ext w wr) (fun _ i _ => N.length - (intOf i).toNat)
  case atStart => exact ⟨0, 0, Nat.zero_le _, rfl, rfl, by omega, by omega, fun _ x hx => by simp at hx, Ext.refl _⟩
  case round =>
    obtain ⟨k, n, hk, rfl, rfl, hkn, hn, hf, hx⟩ := hrel
    have HX := hid_mk hx
    have HF := hid_mk hf
    clear hx hf
    by_cases hbig : n < 4194304
    · by_cases hlt : k < N.length
      · have hk1 : (k : Int) < (N.length : Int) := by omega
        obtain ⟨b, o, rfl, hcl⟩ := HC.out (by omega)
        have HG := hid_mk ((hcl k hlt).ext HX.out)
        have HT := hid_mk (show N.take (k + 1) = N.take k ++ [N[k]] from List.take_succ_eq_append_getElem hlt)
        obtain ⟨x, hx⟩ : ∃ x, N[k] = x := ⟨_, rfl⟩
        rw [hx] at HG HT
        have a2 := HG.out.c2
        have a5 := HG.out.c5
        have a7 := HG.out.c7
        have hbl := cell_lt a2
        have hk0 : (0 : Int) ≤ (k : Int) := by omega
        obtain ⟨p, hp⟩ : ∃ p, min (x.e.key.size : Int) 1073741824 = p := ⟨_, rfl⟩
        obtain ⟨q, hq⟩ : ∃ q, min (x.e.val.size : Int) 1073741824 = q := ⟨_, rfl⟩
        have hp2 : 0 ≤ p ∧ p ≤ 1073741824 := by omega
        have hq2 : 0 ≤ q ∧ q ≤ 1073741824 := by omega
        have HPQ := hid_mk (And.intro hp2 hq2)
        have HW := hid_mk (show wrap64 ((k : Int) + 1) = (k : Int) + 1 from w64in (by omega))
        have HN := hid_mk (And.intro hkn hn)
        clear hcl hx hp2 hq2 hkn hn
        go_wp2_with fail
        refine wp_region_held_below (fun _ => true) (.quiet 0 (.quiet 1 (.quiet 2 (.quiet 3 (.quiet 4 (.quiet 5 (.quiet 8 (.quiet 9 (.quiet 10 (.quiet 11 (.quiet 12 (.quiet 13 (.quiet 14 (.quiet 15 (.quiet 17 (.quiet 18 (.quiet 19 (.quiet 20 (.quiet 21 (.quiet 22 (.quiet 23 (.quiet 24 (.alt 6 (.quiet 7 (.quiet 16 (.quiet 25 (.quiet 26 (.quiet 27 .done))))) .stop))))))))))))))))))))))) (by kernel_rfl) (by kernel_rfl) (by intro c a w d v h; cases d <;> exact h) (fun ops HO => ?_)
        refine plan_read _ (hi_of HO rfl) rfl (fun w' hE => by (repeat (with_reducible replace hE := Ext.unD hE)); have hcE := hE.hc; clear hE; go_simp; rfl) ?_
        simp only [Act.put, List.setIfInBounds_toArray, List.set_cons_succ, List.set_cons_zero]
        refine plan_read _ (hi_of HO rfl) rfl (fun w' hE => by (repeat (with_reducible replace hE := Ext.unD hE)); have hcE := hE.hc; clear hE; go_simp; rfl) ?_
        simp only [Act.put, List.setIfInBounds_toArray, List.set_cons_succ, List.set_cons_zero]
        refine plan_read _ (hi_of HO rfl) rfl (fun w' hE => by (repeat (with_reducible replace hE := Ext.unD hE)); have hcE := hE.hc; clear hE; go_simp; rfl) ?_
        simp only [Act.put, List.setIfInBounds_toArray, List.set_cons_succ, List.set_cons_zero]
        refine plan_read _ (hi_of HO rfl) rfl (fun w' hE => by (repeat (with_reducible replace hE := Ext.unD hE)); have hcE := hE.hc; clear hE; go_simp; rfl) ?_
        simp only [Act.put, List.setIfInBounds_toArray, List.set_cons_succ, List.set_cons_zero]
        refine plan_read _ (hi_of HO rfl) rfl (fun w' hE => by (repeat (with_reducible replace hE := Ext.unD hE)); have hcE := hE.hc; clear hE; go_simp; rfl) ?_
        simp only [Act.put, List.setIfInBounds_toArray, List.set_cons_succ, List.set_cons_zero]
        refine plan_read _ (hi_of HO rfl) rfl (fun w' hE => by (repeat (with_reducible replace hE := Ext.unD hE)); have hcE := hE.hc; clear hE; go_simp; rfl) ?_
        simp only [Act.put, List.setIfInBounds_toArray, List.set_cons_succ, List.set_cons_zero]
        refine plan_read _ (hi_of HO rfl) rfl (fun w' hE => by (repeat (with_reducible replace hE := Ext.unD hE)); have hcE := hE.hc; clear hE; go_simp; rfl) ?_
        simp only [Act.put, List.setIfInBounds_toArray, List.set_cons_succ, List.set_cons_zero]
        refine plan_read _ (hi_of HO rfl) rfl (fun w' hE => by (repeat (with_reducible replace hE := Ext.unD hE)); have hcE := hE.hc; clear hE; go_simp; rfl) ?_
        simp only [Act.put, List.setIfInBounds_toArray, List.set_cons_succ, List.set_cons_zero]
        refine plan_read _ (hi_of HO rfl) rfl (fun w' hE => by (repeat (with_reducible replace hE := Ext.unD hE)); have hcE := hE.hc; clear hE; go_simp; rfl) ?_
        simp only [Act.put, List.setIfInBounds_toArray, List.set_cons_succ, List.set_cons_zero]
        refine plan_read _ (hi_of HO rfl) rfl (fun w' hE => by (repeat (with_reducible replace hE := Ext.unD hE)); have hcE := hE.hc; clear hE; go_simp; rfl) ?_
        simp only [Act.put, List.setIfInBounds_toArray, List.set_cons_succ, List.set_cons_zero]
        refine plan_read _ (hi_of HO rfl) rfl (fun w' hE => by (repeat (with_reducible replace hE := Ext.unD hE)); have hcE := hE.hc; clear hE; go_simp; rfl) ?_
        simp only [Act.put, List.setIfInBounds_toArray, List.set_cons_succ, List.set_cons_zero]
        refine plan_read _ (hi_of HO rfl) rfl (fun w' hE => by (repeat (with_reducible replace hE := Ext.unD hE)); have hcE := hE.hc; clear hE; go_simp; rfl) ?_
        simp only [Act.put, List.setIfInBounds_toArray, List.set_cons_succ, List.set_cons_zero]
        refine plan_read _ (hi_of HO rfl) rfl (fun w' hE => by (repeat (with_reducible replace hE := Ext.unD hE)); have hcE := hE.hc; clear hE; go_simp; rfl) ?_
        simp only [Act.put, List.setIfInBounds_toArray, List.set_cons_succ, List.set_cons_zero]
        refine plan_read _ (hi_of HO rfl) rfl (fun w' hE => by (repeat (with_reducible replace hE := Ext.unD hE)); have hcE := hE.hc; clear hE; go_simp; rfl) ?_
        simp only [Act.put, List.setIfInBounds_toArray, List.set_cons_succ, List.set_cons_zero]
        refine plan_read _ (hi_of HO rfl) rfl (fun w' hE => by (repeat (with_reducible replace hE := Ext.unD hE)); have hcE := hE.hc; clear hE; go_simp; rfl) ?_
        simp only [Act.put, List.setIfInBounds_toArray, List.set_cons_succ, List.set_cons_zero]
        refine plan_read _ (hi_of HO rfl) rfl (fun w' hE => by (repeat (with_reducible replace hE := Ext.unD hE)); have hcE := hE.hc; clear hE; go_simp; rfl) ?_
        simp only [Act.put, List.setIfInBounds_toArray, List.set_cons_succ, List.set_cons_zero]
        refine plan_read _ (hi_of HO rfl) rfl (fun w' hE => by (repeat (with_reducible replace hE := Ext.unD hE)); have hcE := hE.hc; clear hE; go_simp; rfl) ?_
        simp only [Act.put, List.setIfInBounds_toArray, List.set_cons_succ, List.set_cons_zero]
        refine plan_read _ (hi_of HO rfl) rfl (fun w' hE => by (repeat (with_reducible replace hE := Ext.unD hE)); have hcE := hE.hc; clear hE; go_simp; rfl) ?_
        simp only [Act.put, List.setIfInBounds_toArray, List.set_cons_succ, List.set_cons_zero]
        refine plan_read _ (hi_of HO rfl) rfl (fun w' hE => by (repeat (with_reducible replace hE := Ext.unD hE)); have hcE := hE.hc; clear hE; go_simp; rfl) ?_
        simp only [Act.put, List.setIfInBounds_toArray, List.set_cons_succ, List.set_cons_zero]
        refine plan_read _ (hi_of HO rfl) rfl (fun w' hE => by (repeat (with_reducible replace hE := Ext.unD hE)); have hcE := hE.hc; clear hE; go_simp; rfl) ?_
        simp only [Act.put, List.setIfInBounds_toArray, List.set_cons_succ, List.set_cons_zero]
        refine plan_read _ (hi_of HO rfl) rfl (fun w' hE => by (repeat (with_reducible replace hE := Ext.unD hE)); have hcE := hE.hc; clear hE; go_simp; rfl) ?_
        simp only [Act.put, List.setIfInBounds_toArray, List.set_cons_succ, List.set_cons_zero]
        refine plan_read _ (hi_of HO rfl) rfl (fun w' hE => by (repeat (with_reducible replace hE := Ext.unD hE)); have hcE := hE.hc; clear hE; go_simp; rfl) ?_
        simp only [Act.put, List.setIfInBounds_toArray, List.set_cons_succ, List.set_cons_zero]
        refine plan_call1 en_GhWeigh (hi_of HO rfl) rfl rfl (by go_simp; rfl) (by exact weigh_any _ x.l ((HG.out.sl).ext (Ext.drew (Ext.refl _)))) ?_
        rintro e w6 ⟨m, rfl, hm0, hm1, hm2, hx6⟩
        have HM := hid_mk (And.intro hm0 (And.intro hm1 hm2))
        have HX6 := hid_mk (Ext.trans _ _ _ ((Ext.refl wr).drew) hx6)
        have d2 := cell_ext HX6.out a2
        have d5 := cell_ext HX6.out a5
        have dl := cell_lt d2
        refine ⟨_, rfl, (fun _ => hx6), ?_⟩
        simp only [Act.put, List.setIfInBounds_toArray, List.set_cons_succ, List.set_cons_zero]
        clear hm0 hm1 hm2 hx6
        refine plan_read _ (hi_of HO rfl) rfl (fun w' hE => by (repeat (with_reducible replace hE := Ext.unD hE)); have hcE := hE.hc; clear hE; go_simp; rfl) ?_
        simp only [Act.put, List.setIfInBounds_toArray, List.set_cons_succ, List.set_cons_zero]
        refine plan_read _ (hi_of HO rfl) rfl (fun w' hE => by (repeat (with_reducible replace hE := Ext.unD hE)); have hcE := hE.hc; clear hE; go_simp; rfl) ?_
        simp only [Act.put, List.setIfInBounds_toArray, List.set_cons_succ, List.set_cons_zero]
        refine plan_read _ (hi_of HO rfl) rfl (fun w' hE => by (repeat (with_reducible replace hE := Ext.unD hE)); have hcE := hE.hc; clear hE; go_simp; rfl) ?_
        simp only [Act.put, List.setIfInBounds_toArray, List.set_cons_succ, List.set_cons_zero]
        refine plan_read _ (hi_of HO rfl) rfl (fun w' hE => by (repeat (with_reducible replace hE := Ext.unD hE)); have hcE := hE.hc; clear hE; go_simp; rfl) ?_
        simp only [Act.put, List.setIfInBounds_toArray, List.set_cons_succ, List.set_cons_zero]
        refine plan_read _ (hi_of HO rfl) rfl (fun w' hE => by (repeat (with_reducible replace hE := Ext.unD hE)); have hcE := hE.hc; clear hE; go_simp; rfl) ?_
        simp only [Act.put, List.setIfInBounds_toArray, List.set_cons_succ, List.set_cons_zero]
        refine plan_done ?fin101
        have HMM := hid_mk (show IntKind.i64.wrap (n + IntKind.i64.wrap (IntKind.i64.wrap (IntKind.i64.wrap (1 + m) + p) + q)) = n + (1 + m + p + q) by
          have h1 := HM.out
          have h2 := HPQ.out
          have h3 := HN.out
          rw [wrapZ (1 + m) (by omega), wrapZ (1 + m + p) (by omega), wrapZ (1 + m + p + q) (by omega), wrapZ (n + (1 + m + p + q)) (by omega)])
        go_wp2
        go_roundw
        case rel =>
          clear hp hq
          have h1 := HM.out
          have h2 := HPQ.out
          have h3 := HN.out
          refine ⟨k + 1, n + (1 + m + p + q), by omega, (by first | exact congrArg (Value.int .i64) HW.out | rfl), (by first | exact congrArg (Value.int .i64) HMM.out | rfl), by omega, by omega, fun hlow z hz => ?_, Ext.trans _ _ _ HX.out HX6.out⟩
          rw [HT.out] at hz
          rcases List.mem_append.1 hz with hz | hz
          · exact HF.out hbig z hz
          · rw [List.mem_singleton] at hz
            subst hz
            have := h1.2.2 (by omega)
            omega
        case measure =>
          clear hp hq
          (try simp only [HW.out]); simp [intOf]; omega
      · obtain rfl : k = N.length := by omega
        have hmm : ¬ ((N.length : Nat) : Int) < (N.length : Int) := by omega
        have hg : ¬ (4194304 : Int) ≤ n := by omega
        rw [List.take_length] at HF
        have HR := hid_mk (show N.length ≤ 4194304 ∧ ∀ x ∈ N, x.l.length ≤ 4194304 from ⟨by omega, HF.out hbig⟩)
        have hgd : decide ((4194304 : Int) ≤ n) = false := decide_eq_false hg
        go_wp2
        go_ret
        first | exact .inl ⟨rfl, HR.out, HX.out⟩ | exact ⟨_, rfl, fun _ => HR.out, HX.out⟩
    · have hb2 : (4194304 : Int) ≤ n := by omega
      have hgd : decide ((4194304 : Int) ≤ n) = true := decide_eq_true hb2
      go_wp2
      all_goals go_ret
      all_goals first | exact .inr ⟨rfl, HX.out⟩ | exact .inr ⟨rfl, (fun h => by cases h), HX.out⟩ | exact ⟨true, rfl, (fun h => by cases h), HX.out⟩
end Go.Proofs.Ytiimoaplhhnklaa
