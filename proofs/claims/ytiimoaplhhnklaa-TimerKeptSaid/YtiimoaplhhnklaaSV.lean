/- Timers: scripts of steps; TimerDrains, walked. -/
import Derived.Test.YtiimoaplhhnklaaSU
namespace Go.Proofs.Ytiimoaplhhnklaa
open Go.RowKit
set_option maxHeartbeats 4000000
set_option maxRecDepth 100000
set_option linter.unusedSimpArgs false
set_option linter.unusedVariables false
attribute [-go_sem] Builtin.append_
attribute [local go_sem ↓] neq_nm eql_nm

/-- An op in an argument. -/
structure OpO (w : World) (b o : Nat) (x : TOp) : Prop where
  c0 : w.cell? ⟨b, o, none⟩ = some (.int .i64 x.k)
  c1 : w.cell? ⟨b, o + 1, none⟩ = some (.int .i64 x.n.1)
  c2 : w.cell? ⟨b, o + 2, none⟩ = some (.int .i64 x.n.2.1)
  c3 : w.cell? ⟨b, o + 3, none⟩ = some (.int .i64 x.n.2.2)
  c4 : w.cell? ⟨b, o + 4, none⟩ = some (.int .i64 x.t)
  c5 : w.cell? ⟨b, o + 5, none⟩ = some (.int .i64 x.stop)
  c6 : w.cell? ⟨b, o + 6, none⟩ = some (.bool x.snd)
theorem OpO.ext {w w' : World} {b o : Nat} {x : TOp} (h : OpO w b o x) (hx : Ext w w') : OpO w' b o x := ⟨cell_ext hx h.c0, cell_ext hx h.c1, cell_ext hx h.c2, cell_ext hx h.c3, cell_ext hx h.c4, cell_ext hx h.c5, cell_ext hx h.c6⟩
def OpsSl (w : World) (v : Value) (N : List TOp) : Prop := ∃ a c, v = .slice a N.length c ∧ N.length ≤ c ∧ N.length ≤ 140737488351232 ∧ (0 < N.length → ∃ b o, a = some ⟨b, o, none⟩ ∧ ∀ i, (h : i < N.length) → OpO w b (o + i * 7) N[i])
def runS (N : List TOp) (l : List Al) : List Al := N.foldl (fun l o => stepL o l) l
theorem stepL_len (o : TOp) (l : List Al) : (stepL o l).length ≤ l.length + 1 := by
  unfold stepL
  split
  · exact setL_len _ _ _
  · split
    · exact Nat.le_trans (del_len_le _ _) (Nat.le_succ _)
    · exact Nat.le_succ _
theorem runS_len : ∀ (N : List TOp) (l : List Al), (runS N l).length ≤ l.length + N.length
  | [], l => Nat.le_refl _
  | o :: N, l => by
    have h1 := runS_len N (stepL o l)
    have h2 := stepL_len o l
    show (runS N (stepL o l)).length ≤ _
    simp only [List.length_cons]
    omega
theorem runS_take {N : List TOp} {m : Nat} (h : m < N.length) : runS (N.take (m + 1)) [] = stepL N[m] (runS (N.take m) []) := by
  unfold runS
  rw [List.take_succ_eq_append_getElem h, List.foldl_append]
  rfl
/-- A pair in a variable of its own. -/
structure PV (W w : World) (pb tb mb : Nat) (v : Value) (rb : Nat) (rv : Value) (l : List Al) : Prop where
  pr : Pr W.heap.size w tb mb v rb rv l l
  x : Ext W w
  c0 : w.cell? ⟨pb, 0, none⟩ = some (.pointer (some ⟨tb, 0, none⟩))
  c1 : w.cell? ⟨pb, 1, none⟩ = some (.pointer (some ⟨rb, 0, none⟩))
  ne : pb ∉ fpP tb mb v rb rv
theorem PV.ext {W w w' : World} {pb tb mb : Nat} {v : Value} {rb : Nat} {rv : Value} {l : List Al} (h : PV W w pb tb mb v rb rv l) (hx : Ext w w') : PV W w' pb tb mb v rb rv l := ⟨h.pr.ext hx, Ext.trans _ _ _ h.x hx, cell_ext hx h.c0, cell_ext hx h.c1, h.ne⟩
theorem PV.step {W w w' : World} {pb tb mb : Nat} {v : Value} {rb : Nat} {rv : Value} {l l' : List Al} (h : PV W w pb tb mb v rb rv l) (hp : PPost W.heap.size w tb mb v rb rv l' w') : ∃ v' rv', PV W w' pb tb mb v' rb rv' l' := by
  obtain ⟨v', rv', h1, h2, h3⟩ := hp
  have hl := cell_lt h.c0
  exact ⟨v', rv', h1, Xl.ext h.x h2 (fun k hk => (h.pr.fp_lt k hk).1), (h2.cell hl h.ne).trans h.c0, (h2.cell hl h.ne).trans h.c1, fun hm => (h3 pb hm).elim h.ne (by omega)⟩
theorem PV.new {W w : World} {tb mb : Nat} {v : Value} {rb : Nat} {rv : Value} {l : List Al} (h : PairAt W.heap.size w tb mb v rb rv l) (hx : Ext W w) : PV W (w.alloc (.cells #[.pointer (some ⟨tb, 0, none⟩), .pointer (some ⟨rb, 0, none⟩)] 65)) w.heap.size tb mb v rb rv l :=
  have hP : Pr W.heap.size w tb mb v rb rv l l := ⟨h.t, h.d, h.ap⟩
  ⟨hP.ext ((Ext.refl w).alloc _), hx.alloc _, newc rfl, newc rfl, fun hm => by have := (hP.fp_lt _ hm).2; omega⟩
/-- The same, the program's list on its way down. -/
structure QV (W w : World) (pb tb mb : Nat) (v : Value) (rb : Nat) (rv : Value) (la lb : List Al) : Prop where
  pr : Pr W.heap.size w tb mb v rb rv la lb
  x : Ext W w
  c0 : w.cell? ⟨pb, 0, none⟩ = some (.pointer (some ⟨tb, 0, none⟩))
  ne : pb ∉ fpP tb mb v rb rv
theorem QV.ext {W w w' : World} {pb tb mb : Nat} {v : Value} {rb : Nat} {rv : Value} {la lb : List Al} (h : QV W w pb tb mb v rb rv la lb) (hx : Ext w w') : QV W w' pb tb mb v rb rv la lb := ⟨h.pr.ext hx, Ext.trans _ _ _ h.x hx, cell_ext hx h.c0, h.ne⟩
theorem QV.drop {W w w' : World} {pb tb mb : Nat} {v : Value} {rb : Nat} {rv : Value} {la la' lb : List Al} (h : QV W w pb tb mb v rb rv la lb) (hp : TPost W.heap.size w tb mb v la' w') : ∃ v', QV W w' pb tb mb v' rb rv la' lb := by
  obtain ⟨v', h1, h2, h3⟩ := h.pr.wt hp
  have hl := cell_lt h.c0
  exact ⟨v', h1, Xl.ext h.x h2 (fun k hk => (h.pr.fp_lt k hk).1), (h2.cell hl h.ne).trans h.c0, fun hm => (h3 pb hm).elim h.ne (by omega)⟩
theorem timerDrains_walk (N : List TOp) (v0 : Value) (W : World) (hN : OpsSl W v0 N) :
    Calls Try.prog 8 #[v0] W fun e w' => e = .returned (.bool true) ∧ Ext W w' := by
  obtain ⟨na, nc, rfl, hnc, hnl, hn⟩ := hN
  have HN := hid_mk hn
  clear hn
  by_cases hbig : 4096 < N.length
  · have hb : (4096 : Int) < (N.length : Int) := by omega
    go_enter Try.func8, Try.ntmps8
    go_wp2
    go_ret
    exact ⟨rfl, Ext.refl _⟩
  have hb : ¬ (4096 : Int) < (N.length : Int) := by omega
  have HB := hid_mk hbig
  clear hbig
  go_enter Try.func8, Try.ntmps8
  go_wp2_with fail
  refine (fresh_any W).mono ?_
  rintro e W1 ⟨tb, mb, rb, rfl, hp, hx1⟩
  have HPV := hid_mk (PV.new hp hx1)
  clear hp hx1
  go_wp2_with fail
  refine gen_code (fun W2 => PV W W2 W1.heap.size tb mb (.slice none 0 0) rb (.slice none 0 0) []) HPV.out ?_
  intro W2 hpv
  obtain ⟨pb, hpb⟩ : ∃ pb, W1.heap.size = pb := ⟨_, rfl⟩
  rw [hpb] at hpv ⊢
  clear hpb HPV
  have HPV := hid_mk hpv
  clear hpv
  go_loopw [4] (fun x wr => ∃ m : Nat, m ≤ N.length ∧ x = .int .i64 (m : Int) ∧ ∃ v rv, PV W wr pb tb mb v rb rv (runS (N.take m) [])) (fun x _ => N.length - (intOf x).toNat)
  case atStart => exact ⟨0, Nat.zero_le _, rfl, _, _, HPV.out⟩
  case round =>
    clear HPV
    obtain ⟨m, hm, rfl, v, rv, hpv⟩ := hrel
    have HP := hid_mk hpv
    have h0 := hpv.c0
    have h1 := hpv.c1
    have hpl := cell_lt h0
    by_cases hlt : m < N.length
    · obtain ⟨nb, no, rfl, hcl⟩ := HN.out (by omega)
      obtain ⟨a0, a1, a2, a3, a4, a5, a6⟩ := (hcl m hlt).ext HP.out.x
      have hnl2 := cell_lt a0
      have HS := hid_mk (runS_take hlt)
      have HL := hid_mk (show (runS (N.take m) []).length ≤ 10000000000 by
        have h9 := runS_len (N.take m) []
        have h8 := HB.out
        rw [List.length_take] at h9
        simp only [List.length_nil] at h9
        omega)
      obtain ⟨y, hy⟩ : ∃ y, N[m] = y := ⟨_, rfl⟩
      rw [hy] at a0 a1 a2 a3 a4 a5 a6 HS
      have hm1 : (m : Int) < (N.length : Int) := by omega
      have hm0 : (0 : Int) ≤ (m : Int) := by omega
      have hw1 : wrap64 ((m : Int) + 1) = (m : Int) + 1 := w64in (by omega)
      have HW1 := hid_mk hw1
      clear hy hcl hw1 hpv
      go_wp2_with fail
      refine wp_region_held_planC Ext (fun i => i != 5) (fun i => [1, 2, 3, 6].contains i) (.quiet 0 (.quiet 1 (.quiet 2 (.quiet 3 (.quiet 4 (.alt 5 (.quiet 6 .done) .stop)))))) (by kernel_rfl) (by kernel_rfl) Ext.refl Ext.trans (by intro c a w d v h; cases d <;> exact h) (fun ops HO => ?_)
      refine planC_read _ (hi_of HO rfl) rfl rfl (fun w' hE => by (repeat (with_reducible replace hE := Ext.unD hE)); have hcE := hE.hc; clear hE; go_simp; rfl) ?_
      simp only [Act.put, List.setIfInBounds_toArray, List.set_cons_succ, List.set_cons_zero]
      refine planC_calm _ (hi_of HO rfl) rfl (fun w' => by go_simp; rfl) ?_
      simp only [Act.put, List.setIfInBounds_toArray, List.set_cons_succ, List.set_cons_zero]
      refine planC_calm _ (hi_of HO rfl) rfl (fun w' => by go_simp; rfl) ?_
      simp only [Act.put, List.setIfInBounds_toArray, List.set_cons_succ, List.set_cons_zero]
      refine planC_calm _ (hi_of HO rfl) rfl (fun w' => by go_simp; rfl) ?_
      simp only [Act.put, List.setIfInBounds_toArray, List.set_cons_succ, List.set_cons_zero]
      refine planC_read _ (hi_of HO rfl) rfl rfl (fun w' hE => by (repeat (with_reducible replace hE := Ext.unD hE)); have hcE := hE.hc; clear hE; go_simp; rfl) ?_
      simp only [Act.put, List.setIfInBounds_toArray, List.set_cons_succ, List.set_cons_zero]
      refine planC_call1 en_TmStep (hi_of HO rfl) rfl rfl (by go_simp; rfl) (by exact step_any (HP.out.ext (by (repeat (first | exact Ext.refl _ | apply Ext.drew_left | apply Ext.drew | apply Ext.alloc)))).pr y HL.out) ?_
      rintro e w5 ⟨rfl, hp5⟩
      obtain ⟨v', rv', hpv5⟩ := PV.step (HP.out.ext (by (repeat (first | exact Ext.refl _ | apply Ext.drew_left | apply Ext.drew | apply Ext.alloc)))) hp5
      have HP5 := hid_mk hpv5
      clear hpv5 hp5
      refine ⟨_, rfl, (fun h => absurd h (by decide)), ?_⟩
      simp only [Act.put, List.setIfInBounds_toArray, List.set_cons_succ, List.set_cons_zero]
      refine planC_calm _ (hi_of HO rfl) rfl (fun w' => by go_simp; rfl) ?_
      simp only [Act.put, List.setIfInBounds_toArray, List.set_cons_succ, List.set_cons_zero]
      refine planC_done ?fin101
      go_wp2
      go_roundw
      case rel => exact ⟨m + 1, hlt, (by first | exact congrArg (Value.int .i64) HW1.out | rfl), v', rv', by rw [HS.out]; exact HP5.out⟩
      case measure => (try simp only [HW1.out]); simp [intOf]; first | done | omega
    · obtain rfl : m = N.length := by omega
      rw [List.take_length] at HP
      have hmm : ¬ ((N.length : Nat) : Int) < (N.length : Int) := by omega
      have HL := hid_mk (show (runS N []).length ≤ 4096 by
        have h9 := runS_len N []
        have h8 := HB.out
        simp only [List.length_nil] at h9
        omega)
      obtain ⟨lf, hlf⟩ : ∃ lf, runS N [] = lf := ⟨_, rfl⟩
      rw [hlf] at HP HL
      clear hlf hpv hlt hm
      have hr0 := HP.out.pr.d.c0
      have hrl := cell_lt hr0
      obtain ⟨ra, rc, rfl⟩ := own_form HP.out.pr.d.own
      go_wp2_with fail
      go_loopw [6] (fun x wr => ∃ j : Nat, j ≤ lf.length ∧ x = .int .i64 (j : Int) ∧ ∃ v, QV W wr pb tb mb v rb (.slice ra lf.length rc) (lf.drop j) lf) (fun x _ => lf.length - (intOf x).toNat)
      case atStart => exact ⟨0, Nat.zero_le _, rfl, v, HP.out.pr, HP.out.x, HP.out.c0, HP.out.ne⟩
      case round =>
        clear HP
        obtain ⟨j, hj, rfl, v, hqv⟩ := hrel
        have HQ := hid_mk hqv
        have g0 := hqv.c0
        have hpl2 := cell_lt g0
        clear hqv
        by_cases hlt : j < lf.length
        · have hdr := List.drop_eq_getElem_cons hlt
          obtain ⟨y, hy⟩ : ∃ y, lf[j] = y := ⟨_, rfl⟩
          have HY := hid_mk hy
          rw [hy] at hdr
          rw [hdr] at HQ
          clear hdr hy
          have hj1 : (j : Int) < (lf.length : Int) := by omega
          have hj0 : (0 : Int) ≤ (j : Int) := by omega
          have hw1 : wrap64 ((j : Int) + 1) = (j : Int) + 1 := w64in (by have := HL.out; omega)
          have HW1 := hid_mk hw1
          clear hw1
          go_wp2_with fail
          refine (tnext_any HQ.out.pr.t).mono ?_
          rintro e W3 ⟨rfl, hx3⟩
          have HQ3 := hid_mk (HQ.out.ext hx3)
          have k0 := cell_ext hx3 g0
          have hkl := cell_lt k0
          clear hx3 g0 HQ
          dsimp only [nextV]
          go_wp2_with fail
          obtain ⟨g, c9, e9, -, -, -, hgl, hat⟩ := ownA_at HQ3.out.pr.d.own (by omega)
          cases e9
          obtain ⟨r0, r1, r2, r3⟩ := hat j hlt
          rw [HY.out] at r0 r1 r2 r3
          have HD := hid_mk (del_head HQ3.out.pr.t.ok)
          have HDL := hid_mk (show (y :: lf.drop (j + 1)).length ≤ 100000000000 by
            have h8 := HL.out
            simp only [List.length_cons, List.length_drop]
            omega)
          clear hat
          obtain ⟨L, hLL⟩ : ∃ L, fp tb mb v = L := ⟨_, rfl⟩
          have hn1 : pb ∉ L := fun h => HQ3.out.ne (by rw [← hLL] at h; exact List.mem_append_left _ h)
          have hn2 : W3.heap.size ∉ L := fun h => by rw [← hLL] at h; have := (HQ3.out.pr.t.fp_lt _ h).2; omega
          have hn3 : g ∉ L := fun h => by rw [← hLL] at h; exact HQ3.out.pr.ap _ h (by simp [fpR, Value.ownBlock])
          have HLL := hid_mk hLL
          clear hLL
          refine gen_code (fun W5 => NmAt W5 W3.heap.size y.1 ∧ Ext W3 W5 ∧ W3.heap.size < W5.heap.size) ⟨⟨by go_simp, by go_simp, by go_simp⟩, by (repeat (first | exact Ext.refl _ | apply Ext.drew_left | apply Ext.drew | apply Ext.alloc)), by simp⟩ ?_
          rintro W5 ⟨⟨n0, n1, n2⟩, hx5, hb2⟩
          have HQ5 := hid_mk (HQ3.out.ext hx5)
          have k5 := cell_ext hx5 k0
          have hb1 := cell_lt k5
          have s0 := cell_ext hx5 r0
          have s1 := cell_ext hx5 r1
          have s2 := cell_ext hx5 r2
          have s3 := cell_ext hx5 r3
          have hb3 := cell_lt s0
          clear hx5 k0 r0 r1 r2 r3 hkl
          refine wp_region_held_plan (Xl L) (fun _ => true) (.quiet 0 (.quiet 1 (.quiet 2 (.quiet 3 (.quiet 4 (.quiet 5 (.quiet 6 (.quiet 7 (.quiet 8 (.quiet 9 (.quiet 10 (.quiet 11 (.quiet 12 (.quiet 13 (.quiet 14 (.quiet 15 (.quiet 16 (.quiet 17 (.quiet 18 (.quiet 19 (.quiet 20 (.quiet 21 (.quiet 22 (.quiet 23 (.alt 24 (.quiet 25 (.quiet 26 .done)) .stop))))))))))))))))))))))))) (by kernel_rfl) (by kernel_rfl) Xl.refl Xl.trans (by intro c a w d v h; cases d <;> exact h) (fun ops HO => ?_)
          refine plan_read _ (hi_of HO rfl) rfl (fun w' hE => by (repeat (with_reducible replace hE := Ext.unD hE)); have hcE := hE.hc; clear hE; go_simp; rfl) ?_
          simp only [Act.put, List.setIfInBounds_toArray, List.set_cons_succ, List.set_cons_zero]
          refine plan_read _ (hi_of HO rfl) rfl (fun w' hE => by (repeat (with_reducible replace hE := Ext.unD hE)); have hcE := hE.hc; clear hE; go_simp; rfl) ?_
          simp only [Act.put, List.setIfInBounds_toArray, List.set_cons_succ, List.set_cons_zero]
          refine plan_read _ (hi_of HO rfl) rfl (fun w' hE => by (repeat (with_reducible replace hE := Ext.unD hE)); have hcE := hE.hc; clear hE; go_simp; rfl) ?_
          simp only [Act.put, List.setIfInBounds_toArray, List.set_cons_succ, List.set_cons_zero]
          refine plan_read _ (hi_of HO rfl) (by rw [HO.out]; rfl) (fun w' hE => by have hcA := xl_hc hE hb1 hn1; have hcB := xl_hc hE hb2 hn2; have hcC := xl_hc hE hb3 hn3; clear hE; go_simp; rfl) ?_
          simp only [Act.put, List.setIfInBounds_toArray, List.set_cons_succ, List.set_cons_zero]
          refine plan_read _ (hi_of HO rfl) (by rw [HO.out]; rfl) (fun w' hE => by (repeat (with_reducible replace hE := Ext.unD hE)); have hcE := hE.hc; clear hE; go_simp; rfl) ?_
          simp only [Act.put, List.setIfInBounds_toArray, List.set_cons_succ, List.set_cons_zero]
          refine plan_read _ (hi_of HO rfl) (by rw [HO.out]; rfl) (fun w' hE => by (repeat (with_reducible replace hE := Ext.unD hE)); have hcE := hE.hc; clear hE; go_simp; rfl) ?_
          simp only [Act.put, List.setIfInBounds_toArray, List.set_cons_succ, List.set_cons_zero]
          refine plan_read _ (hi_of HO rfl) (by rw [HO.out]; rfl) (fun w' hE => by (repeat (with_reducible replace hE := Ext.unD hE)); have hcE := hE.hc; clear hE; go_simp; rfl) ?_
          simp only [Act.put, List.setIfInBounds_toArray, List.set_cons_succ, List.set_cons_zero]
          refine plan_read _ (hi_of HO rfl) (by rw [HO.out]; rfl) (fun w' hE => by (repeat (with_reducible replace hE := Ext.unD hE)); have hcE := hE.hc; clear hE; go_simp; rfl) ?_
          simp only [Act.put, List.setIfInBounds_toArray, List.set_cons_succ, List.set_cons_zero]
          refine plan_read _ (hi_of HO rfl) (by rw [HO.out]; rfl) (fun w' hE => by have hcA := xl_hc hE hb1 hn1; have hcB := xl_hc hE hb2 hn2; have hcC := xl_hc hE hb3 hn3; clear hE; go_simp; rfl) ?_
          simp only [Act.put, List.setIfInBounds_toArray, List.set_cons_succ, List.set_cons_zero]
          refine plan_read _ (hi_of HO rfl) (by rw [HO.out]; rfl) (fun w' hE => by (repeat (with_reducible replace hE := Ext.unD hE)); have hcE := hE.hc; clear hE; go_simp; rfl) ?_
          simp only [Act.put, List.setIfInBounds_toArray, List.set_cons_succ, List.set_cons_zero]
          refine plan_read _ (hi_of HO rfl) rfl (fun w' hE => by (repeat (with_reducible replace hE := Ext.unD hE)); have hcE := hE.hc; clear hE; go_simp; rfl) ?_
          simp only [Act.put, List.setIfInBounds_toArray, List.set_cons_succ, List.set_cons_zero]
          refine plan_read _ (hi_of HO rfl) rfl (fun w' hE => by (repeat (with_reducible replace hE := Ext.unD hE)); have hcE := hE.hc; clear hE; go_simp; rfl) ?_
          simp only [Act.put, List.setIfInBounds_toArray, List.set_cons_succ, List.set_cons_zero]
          refine plan_read _ (hi_of HO rfl) (by rw [HO.out]; rfl) (fun w' hE => by (repeat (with_reducible replace hE := Ext.unD hE)); have hcE := hE.hc; clear hE; go_simp; rfl) ?_
          simp only [Act.put, List.setIfInBounds_toArray, List.set_cons_succ, List.set_cons_zero]
          refine plan_read _ (hi_of HO rfl) (by rw [HO.out]; rfl) (fun w' hE => by (repeat (with_reducible replace hE := Ext.unD hE)); have hcE := hE.hc; clear hE; go_simp; rfl) ?_
          simp only [Act.put, List.setIfInBounds_toArray, List.set_cons_succ, List.set_cons_zero]
          refine plan_read _ (hi_of HO rfl) (by rw [HO.out]; rfl) (fun w' hE => by (repeat (with_reducible replace hE := Ext.unD hE)); have hcE := hE.hc; clear hE; go_simp; rfl) ?_
          simp only [Act.put, List.setIfInBounds_toArray, List.set_cons_succ, List.set_cons_zero]
          refine plan_read _ (hi_of HO rfl) (by rw [HO.out]; rfl) (fun w' hE => by (repeat (with_reducible replace hE := Ext.unD hE)); have hcE := hE.hc; clear hE; go_simp; rfl) ?_
          simp only [Act.put, List.setIfInBounds_toArray, List.set_cons_succ, List.set_cons_zero]
          refine plan_read _ (hi_of HO rfl) (by rw [HO.out]; rfl) (fun w' hE => by (repeat (with_reducible replace hE := Ext.unD hE)); have hcE := hE.hc; clear hE; go_simp; rfl) ?_
          simp only [Act.put, List.setIfInBounds_toArray, List.set_cons_succ, List.set_cons_zero]
          refine plan_read _ (hi_of HO rfl) (by rw [HO.out]; rfl) (fun w' hE => by have hcA := xl_hc hE hb1 hn1; have hcB := xl_hc hE hb2 hn2; have hcC := xl_hc hE hb3 hn3; clear hE; go_simp; rfl) ?_
          simp only [Act.put, List.setIfInBounds_toArray, List.set_cons_succ, List.set_cons_zero]
          refine plan_read _ (hi_of HO rfl) (by rw [HO.out]; rfl) (fun w' hE => by (repeat (with_reducible replace hE := Ext.unD hE)); have hcE := hE.hc; clear hE; go_simp; rfl) ?_
          simp only [Act.put, List.setIfInBounds_toArray, List.set_cons_succ, List.set_cons_zero]
          refine plan_read _ (hi_of HO rfl) rfl (fun w' hE => by (repeat (with_reducible replace hE := Ext.unD hE)); have hcE := hE.hc; clear hE; go_simp; rfl) ?_
          simp only [Act.put, List.setIfInBounds_toArray, List.set_cons_succ, List.set_cons_zero]
          refine plan_read _ (hi_of HO rfl) rfl (fun w' hE => by (repeat (with_reducible replace hE := Ext.unD hE)); have hcE := hE.hc; clear hE; go_simp; rfl) ?_
          simp only [Act.put, List.setIfInBounds_toArray, List.set_cons_succ, List.set_cons_zero]
          refine plan_read _ (hi_of HO rfl) (by rw [HO.out]; rfl) (fun w' hE => by (repeat (with_reducible replace hE := Ext.unD hE)); have hcE := hE.hc; clear hE; go_simp; rfl) ?_
          simp only [Act.put, List.setIfInBounds_toArray, List.set_cons_succ, List.set_cons_zero]
          refine plan_read _ (hi_of HO rfl) (by rw [HO.out]; rfl) (fun w' hE => by have hcA := xl_hc hE hb1 hn1; have hcB := xl_hc hE hb2 hn2; have hcC := xl_hc hE hb3 hn3; clear hE; go_simp; rfl) ?_
          simp only [Act.put, List.setIfInBounds_toArray, List.set_cons_succ, List.set_cons_zero]
          refine plan_read _ (hi_of HO rfl) (by rw [HO.out]; rfl) (fun w' hE => by have hcA := xl_hc hE hb1 hn1; have hcB := xl_hc hE hb2 hn2; have hcC := xl_hc hE hb3 hn3; clear hE; go_simp; rfl) ?_
          simp only [Act.put, List.setIfInBounds_toArray, List.set_cons_succ, List.set_cons_zero]
          refine plan_call1 en_TmDrop (hi_of HO rfl) (by rw [HO.out]; rfl) rfl (by go_simp; rfl) (by exact tdrop_any (HQ5.out.ext (Ext.drew (Ext.refl _))).pr.t y.1 HDL.out) ?_
          rintro e w24 ⟨rfl, hp24⟩
          rw [HD.out.1] at hp24
          rw [HD.out.2.1]
          have HXR := hid_mk (show Xl L W5.drew w24 by
          obtain ⟨_, _, h2, _⟩ := hp24
          rw [← HLL.out]
          exact h2)
          obtain ⟨v24, hq24⟩ := QV.drop (HQ5.out.ext (Ext.drew (Ext.refl _))) hp24.to
          have HQ24 := hid_mk hq24
          clear hp24 hq24
          refine ⟨_, rfl, (fun _ => HXR.out), ?_⟩
          simp only [Act.put, List.setIfInBounds_toArray, List.set_cons_succ, List.set_cons_zero]
          refine plan_read _ (hi_of HO rfl) (by rw [HO.out]; rfl) (fun w' hE => by (repeat (with_reducible replace hE := Ext.unD hE)); have hcE := hE.hc; clear hE; go_simp; rfl) ?_
          simp only [Act.put, List.setIfInBounds_toArray, List.set_cons_succ, List.set_cons_zero]
          refine plan_read _ (hi_of HO rfl) rfl (fun w' hE => by (repeat (with_reducible replace hE := Ext.unD hE)); have hcE := hE.hc; clear hE; go_simp; rfl) ?_
          simp only [Act.put, List.setIfInBounds_toArray, List.set_cons_succ, List.set_cons_zero]
          refine plan_done ?fin102
          go_wp2
          go_roundw
          case rel => exact ⟨j + 1, hlt, (by first | exact congrArg (Value.int .i64) HW1.out | rfl), v24, HQ24.out⟩
          case measure => (try simp only [HW1.out]); simp [intOf]; first | done | omega
        · obtain rfl : j = lf.length := by omega
          rw [List.drop_length] at HQ
          have hjj : ¬ ((lf.length : Nat) : Int) < (lf.length : Int) := by omega
          go_wp2_with fail
          refine (tnext_any HQ.out.pr.t).mono ?_
          rintro e W3 ⟨rfl, hx3⟩
          have HQ3 := hid_mk (HQ.out.ext hx3)
          have k0 := cell_ext hx3 g0
          have hkl := cell_lt k0
          clear hx3 g0 HQ
          dsimp only [nextV]
          go_wp2_with fail
          refine (tlen_any (HQ3.out.ext (by (repeat (first | exact Ext.refl _ | apply Ext.drew_left | apply Ext.drew | apply Ext.alloc)))).pr.t).mono ?_
          rintro e W4 ⟨rfl, rfl⟩
          go_wp2
          go_ret
          exact ⟨rfl, (HQ3.out.ext (by (repeat (first | exact Ext.refl _ | apply Ext.drew_left | apply Ext.drew | apply Ext.alloc)))).x⟩
end Go.Proofs.Ytiimoaplhhnklaa
