/- Timers: TimerScript, walked. -/
import Derived.Test.YtiimoaplhhnklaaSV
namespace Go.Proofs.Ytiimoaplhhnklaa
open Go.RowKit
set_option maxHeartbeats 4000000
set_option maxRecDepth 100000
set_option linter.unusedSimpArgs false
set_option linter.unusedVariables false
attribute [-go_sem] Builtin.append_
attribute [local go_sem ↓] neq_nm eql_nm

def runB (b : Bool) (N : List TOp) : List Al := runS (N.filter fun o => o.snd == b) []
theorem runB_take {b : Bool} {N : List TOp} {m : Nat} (h : m < N.length) : runB b (N.take (m + 1)) = if N[m].snd = b then stepL N[m] (runB b (N.take m)) else runB b (N.take m) := by
  unfold runB
  rw [List.take_succ_eq_append_getElem h, List.filter_append]
  unfold runS
  rw [List.foldl_append]
  by_cases hb : N[m].snd = b
  · rw [if_pos hb, List.filter_cons, if_pos (by simpa using hb)]
    rfl
  · rw [if_neg hb, List.filter_cons, if_neg (by simpa using hb)]
    rfl
theorem runB_len (b : Bool) (N : List TOp) : (runB b N).length ≤ N.length := by
  have h1 := runS_len (N.filter fun o => o.snd == b) []
  have h2 : (N.filter fun o => o.snd == b).length ≤ N.length := List.length_filter_le _ _
  unfold runB
  simp only [List.length_nil] at h1
  omega
theorem step_low {o : TOp} {l : List Al} (h : ∀ x ∈ l, x.2 ≤ 1099511627776) : ∀ x ∈ stepL o l, x.2 ≤ 1099511627776 := by
  intro x hx
  unfold stepL at hx
  split at hx
  · unfold setL at hx
    split at hx
    · exact h x hx
    · rename_i hb
      rw [setA, mem_insA] at hx
      rcases hx with rfl | hx
      · simp [badT] at hb
        exact hb.2
      · exact h x (mem_del.1 hx).1
  · split at hx
    · exact h x (mem_del.1 hx).1
    · exact h x hx
theorem runS_low : ∀ (N : List TOp) (l : List Al), (∀ x ∈ l, x.2 ≤ 1099511627776) → ∀ x ∈ runS N l, x.2 ≤ 1099511627776
  | [], _, h => h
  | o :: N, l, h => runS_low N (stepL o l) (step_low h)
theorem runB_due (b : Bool) (N : List TOp) : dueA 1099511627776 (runB b N) = runB b N :=
  tw_self fun x hx => decide_eq_true (runS_low _ _ (fun _ h => by cases h) x hx)
theorem Pr.away {B : Nat} {w w' : World} {tb mb : Nat} {v : Value} {rb : Nat} {rv : Value} {la lb : List Al} {L : List Nat} (h : Pr B w tb mb v rb rv la lb) (hx : Xl L w w') (hd : ∀ x ∈ fpP tb mb v rb rv, x ∉ L) : Pr B w' tb mb v rb rv la lb :=
  ⟨h.t.away hx (fun x hm => hd x (List.mem_append_left _ hm)), h.d.away hx (fun x hm => hd x (List.mem_append_right _ hm)), h.ap⟩
theorem PV.away {W w w' : World} {pb tb mb : Nat} {v : Value} {rb : Nat} {rv : Value} {l : List Al} {L : List Nat} (h : PV W w pb tb mb v rb rv l) (hx : Xl L w w') (hd : ∀ x ∈ fpP tb mb v rb rv, x ∉ L) (hp : pb ∉ L) (hW : Ext W w') : PV W w' pb tb mb v rb rv l :=
  ⟨h.pr.away hx hd, hW, (hx.cell (cell_lt h.c0) hp).trans h.c0, (hx.cell (cell_lt h.c0) hp).trans h.c1, h.ne⟩
/-- Two pairs, each in a variable of its own. -/
structure TwoV (W w : World) (pa ta ma : Nat) (va : Value) (ra : Nat) (rva : Value) (la : List Al) (pb tb mb : Nat) (vb : Value) (rb : Nat) (rvb : Value) (lb : List Al) : Prop where
  a : PV W w pa ta ma va ra rva la
  b : PV W w pb tb mb vb rb rvb lb
  nab : pa ∉ fpP tb mb vb rb rvb
  nba : pb ∉ fpP ta ma va ra rva
  ap : ∀ x ∈ fpP ta ma va ra rva, x ∉ fpP tb mb vb rb rvb
theorem TwoV.sym {W w : World} {pa ta ma : Nat} {va : Value} {ra : Nat} {rva : Value} {la : List Al} {pb tb mb : Nat} {vb : Value} {rb : Nat} {rvb : Value} {lb : List Al} (h : TwoV W w pa ta ma va ra rva la pb tb mb vb rb rvb lb) : TwoV W w pb tb mb vb rb rvb lb pa ta ma va ra rva la :=
  ⟨h.b, h.a, h.nba, h.nab, fun x hx hy => h.ap x hy hx⟩
theorem TwoV.ext {W w w' : World} {pa ta ma : Nat} {va : Value} {ra : Nat} {rva : Value} {la : List Al} {pb tb mb : Nat} {vb : Value} {rb : Nat} {rvb : Value} {lb : List Al} (h : TwoV W w pa ta ma va ra rva la pb tb mb vb rb rvb lb) (hx : Ext w w') : TwoV W w' pa ta ma va ra rva la pb tb mb vb rb rvb lb :=
  ⟨h.a.ext hx, h.b.ext hx, h.nab, h.nba, h.ap⟩
theorem TwoV.step {W w w' : World} {pa ta ma : Nat} {va : Value} {ra : Nat} {rva : Value} {la la' : List Al} {pb tb mb : Nat} {vb : Value} {rb : Nat} {rvb : Value} {lb : List Al} (h : TwoV W w pa ta ma va ra rva la pb tb mb vb rb rvb lb) (hp : PPost W.heap.size w ta ma va ra rva la' w') :
    ∃ va' rva', TwoV W w' pa ta ma va' ra rva' la' pb tb mb vb rb rvb lb ∧ Xl (fpP ta ma va ra rva) w w' := by
  obtain ⟨va', rva', h1, h2, h3⟩ := hp
  have hl := cell_lt h.a.c0
  have hlb := cell_lt h.b.c0
  have hW := Xl.ext h.a.x h2 (fun k hk => (h.a.pr.fp_lt k hk).1)
  exact ⟨va', rva', ⟨⟨h1, hW, (h2.cell hl h.a.ne).trans h.a.c0, (h2.cell hl h.a.ne).trans h.a.c1, fun hm => (h3 pa hm).elim h.a.ne (by omega)⟩,
    h.b.away h2 (fun x hx hy => h.ap x hy hx) h.nba hW, h.nab, fun hm => (h3 pb hm).elim h.nba (by omega),
    fun x hx hy => (h3 x hx).elim (fun h9 => h.ap x h9 hy) (by have := (h.b.pr.fp_lt x hy).2; omega)⟩, h2⟩
theorem TwoV.new {W w w' : World} {pa ta ma : Nat} {va : Value} {ra : Nat} {rva : Value} {la : List Al} {tb mb : Nat} {vb : Value} {rb : Nat} {rvb : Value} {lb : List Al} (h : PV W w pa ta ma va ra rva la) (hp : PairAt w.heap.size w' tb mb vb rb rvb lb) (hx : Ext w w') :
    TwoV W (w'.alloc (.cells #[.pointer (some ⟨tb, 0, none⟩), .pointer (some ⟨rb, 0, none⟩)] 65)) pa ta ma va ra rva la w'.heap.size tb mb vb rb rvb lb := by
  have hl := cell_lt h.c0
  have hz := hx.below.size
  have hz0 := h.x.below.size
  have hP : Pr w.heap.size w' tb mb vb rb rvb lb lb := ⟨hp.t, hp.d, hp.ap⟩
  have hq : PairAt W.heap.size w' tb mb vb rb rvb lb := ⟨hp.t.lower hz0, hp.d.lower hz0, hp.ap⟩
  exact ⟨h.ext (hx.alloc _), PV.new hq (Ext.trans _ _ _ h.x hx), fun hm => by have := (hP.fp_lt _ hm).1; omega, fun hm => by have := (h.pr.fp_lt _ hm).2; omega, fun x hx hy => by
    have := (h.pr.fp_lt _ hx).2
    have := (hP.fp_lt _ hy).1
    omega⟩
theorem gen_calls {P : Program} {f : FuncId} {args : Array Value} {w : World} {Q : Ending → World → Prop} (R : World → Prop) (h0 : R w) (h : ∀ W, R W → Calls P f args W Q) : Calls P f args w Q := h w h0
/-- The one that is asked, boxed. -/
structure BoxAt (w W : World) (tb rb : Nat) : Prop where
  x : Ext w W
  sz : w.heap.size < W.heap.size
  c0 : W.cell? ⟨w.heap.size, 0, none⟩ = some (.pointer (some ⟨tb, 0, none⟩))
  c1 : W.cell? ⟨w.heap.size, 1, none⟩ = some (.pointer (some ⟨rb, 0, none⟩))
theorem box_new (w : World) (tb rb : Nat) : BoxAt w (w.alloc (.cells #[.pointer (some ⟨tb, 0, none⟩), .pointer (some ⟨rb, 0, none⟩)] 65)) tb rb :=
  ⟨by (repeat (first | exact Ext.refl _ | apply Ext.drew_left | apply Ext.drew | apply Ext.alloc)), by simp, by go_simp, by go_simp⟩
theorem timerScript_walk (N : List TOp) (v0 : Value) (W : World) (hN : OpsSl W v0 N) :
    Calls Try.prog 6 #[v0] W fun e w' => e = .returned (.bool true) ∧ Ext W w' := by
  obtain ⟨na, nc, rfl, hnc, hnl, hn⟩ := hN
  have HN := hid_mk hn
  clear hn
  by_cases hbig : 512 < N.length
  · have hb : (512 : Int) < (N.length : Int) := by omega
    go_enter Try.func6, Try.ntmps6
    go_wp2
    go_ret
    exact ⟨rfl, Ext.refl _⟩
  have hb : ¬ (512 : Int) < (N.length : Int) := by omega
  have HB := hid_mk hbig
  clear hbig
  go_enter Try.func6, Try.ntmps6
  go_wp2_with fail
  refine (fresh_any W).mono ?_
  rintro e W1 ⟨ta, ma, ra, rfl, hp, hx1⟩
  have HPV := hid_mk (PV.new hp hx1)
  clear hp hx1
  go_wp2_with fail
  refine gen_calls (fun W2 => PV W W2 W1.heap.size ta ma (.slice none 0 0) ra (.slice none 0 0) []) HPV.out ?_
  intro W2 hpv
  obtain ⟨pa, hpa⟩ : ∃ pa, W1.heap.size = pa := ⟨_, rfl⟩
  rw [hpa] at hpv ⊢
  clear hpa HPV
  have HPV := hid_mk hpv
  clear hpv
  refine (fresh_any W2).mono ?_
  rintro e W3 ⟨tb, mb, rb, rfl, hp, hx3⟩
  have HTV := hid_mk (TwoV.new HPV.out hp hx3)
  clear hp hx3 HPV
  go_wp2_with fail
  refine gen_code (fun W4 => TwoV W W4 pa ta ma (.slice none 0 0) ra (.slice none 0 0) [] W3.heap.size tb mb (.slice none 0 0) rb (.slice none 0 0) []) HTV.out ?_
  intro W4 htv
  obtain ⟨pb, hpb⟩ : ∃ pb, W3.heap.size = pb := ⟨_, rfl⟩
  rw [hpb] at htv ⊢
  clear hpb HTV
  have HTV := hid_mk htv
  clear htv
  go_loopw [5] (fun x wr => ∃ m : Nat, m ≤ N.length ∧ x = .int .i64 (m : Int) ∧ ∃ va rva vb rvb, TwoV W wr pa ta ma va ra rva (runB false (N.take m)) pb tb mb vb rb rvb (runB true (N.take m))) (fun x _ => N.length - (intOf x).toNat)
  case atStart => exact ⟨0, Nat.zero_le _, rfl, _, _, _, _, HTV.out⟩
  case round =>
    clear HTV
    obtain ⟨m, hm, rfl, va, rva, vb, rvb, htv⟩ := hrel
    have HP := hid_mk htv
    have h0 := htv.a.c0
    have h1 := htv.a.c1
    have h2 := htv.b.c0
    have h3 := htv.b.c1
    have hpl := cell_lt h0
    have hpl2 := cell_lt h2
    clear htv
    by_cases hlt : m < N.length
    · obtain ⟨nb, no, rfl, hcl⟩ := HN.out (by omega)
      have HNB := hid_mk (cell_lt (hcl m hlt).c0)
      obtain ⟨a0, a1, a2, a3, a4, a5, a6⟩ := (hcl m hlt).ext HP.out.a.x
      have hnl2 := cell_lt a0
      have HSA := hid_mk (runB_take (b := false) hlt)
      have HSB := hid_mk (runB_take (b := true) hlt)
      have HLA := hid_mk (show (runB false (N.take m)).length ≤ 10000000000 by
        have h9 := runB_len false (N.take m)
        have h8 := HB.out
        rw [List.length_take] at h9
        omega)
      have HLB := hid_mk (show (runB true (N.take m)).length ≤ 10000000000 by
        have h9 := runB_len true (N.take m)
        have h8 := HB.out
        rw [List.length_take] at h9
        omega)
      obtain ⟨y, hy⟩ : ∃ y, N[m] = y := ⟨_, rfl⟩
      rw [hy] at a0 a1 a2 a3 a4 a5 a6 HSA HSB
      have hm1 : (m : Int) < (N.length : Int) := by omega
      have hm0 : (0 : Int) ≤ (m : Int) := by omega
      have hw1 : wrap64 ((m : Int) + 1) = (m : Int) + 1 := w64in (by omega)
      have HW1 := hid_mk hw1
      clear hy hcl hw1
      obtain ⟨k, n, t, stop, snd⟩ := y
      dsimp only at a0 a1 a2 a3 a4 a5 a6 HSA HSB
      rcases snd with _ | _
      · rw [if_pos rfl] at HSA
        rw [if_neg (by decide)] at HSB
        go_wp2_with fail
        refine gen_code (fun W4 => BoxAt wr W4 ta ra) (box_new wr ta ra) ?_
        intro W4 hb4
        obtain ⟨L, hL⟩ : ∃ L, fpP ta ma va ra rva = L := ⟨_, rfl⟩
        have hlz := fun x hx => (HP.out.a.pr.fp_lt x hx).2
        have hlr := fun x hx => (HP.out.a.pr.fp_lt x hx).1
        rw [hL] at hlz hlr
        have hbx := hb4.c0
        have hby := hb4.c1
        have hbz := hb4.sz
        have HX4 := hid_mk hb4.x
        have hnb : wr.heap.size ∉ L := fun h => by have := hlz _ h; omega
        have hnn : nb ∉ L := fun h => by have := hlr _ h; have := HNB.out; omega
        have HLL := hid_mk hL
        have b0 := cell_ext hb4.x a0
        have b1 := cell_ext hb4.x a1
        have b2 := cell_ext hb4.x a2
        have b3 := cell_ext hb4.x a3
        have b4 := cell_ext hb4.x a4
        have b5 := cell_ext hb4.x a5
        have b6 := cell_ext hb4.x a6
        have hnz := cell_lt b0
        clear hlz hlr hb4 hL a0 a1 a2 a3 a4 a5 a6 h0 h1 h2 h3 hpl hpl2 hnl2
        refine wp_region_held_plan (Xl L) (fun _ => true) (.quiet 0 (.quiet 1 (.quiet 2 (.quiet 3 (.quiet 4 (.alt 5 (.quiet 6 (.quiet 7 (.quiet 8 (.alt 9 (.quiet 10 (.quiet 11 .done)) .stop)))) .stop)))))) (by kernel_rfl) (by kernel_rfl) Xl.refl Xl.trans (by intro c a w d v h; cases d <;> exact h) (fun ops HO => ?_)
        refine plan_read _ (hi_of HO rfl) rfl (fun w' hE => by have hcP := xl_hc hE hbz hnb; have hcN := xl_hc hE hnz hnn; clear hE; go_simp; rfl) ?_
        simp only [Act.put, List.setIfInBounds_toArray, List.set_cons_succ, List.set_cons_zero]
        refine plan_read _ (hi_of HO rfl) rfl (fun w' hE => by (repeat (with_reducible replace hE := Ext.unD hE)); have hcE := hE.hc; clear hE; go_simp; rfl) ?_
        simp only [Act.put, List.setIfInBounds_toArray, List.set_cons_succ, List.set_cons_zero]
        refine plan_read _ (hi_of HO rfl) rfl (fun w' hE => by (repeat (with_reducible replace hE := Ext.unD hE)); have hcE := hE.hc; clear hE; go_simp; rfl) ?_
        simp only [Act.put, List.setIfInBounds_toArray, List.set_cons_succ, List.set_cons_zero]
        refine plan_read _ (hi_of HO rfl) rfl (fun w' hE => by (repeat (with_reducible replace hE := Ext.unD hE)); have hcE := hE.hc; clear hE; go_simp; rfl) ?_
        simp only [Act.put, List.setIfInBounds_toArray, List.set_cons_succ, List.set_cons_zero]
        refine plan_read _ (hi_of HO rfl) rfl (fun w' hE => by have hcP := xl_hc hE hbz hnb; have hcN := xl_hc hE hnz hnn; clear hE; go_simp; rfl) ?_
        simp only [Act.put, List.setIfInBounds_toArray, List.set_cons_succ, List.set_cons_zero]
        refine plan_call1 en_TmStep (hi_of HO rfl) rfl rfl (by go_simp; rfl) (by exact step_any (HP.out.a.ext (Ext.drew HX4.out)).pr ⟨k, n, t, stop, false⟩ HLA.out) ?_
        rintro e w5 ⟨rfl, hp5⟩
        obtain ⟨v', rv', hpv5, hxl5⟩ := TwoV.step (HP.out.ext (Ext.drew HX4.out)) hp5
        have HXR := hid_mk (show Xl L W4.drew w5 by rw [← HLL.out]; exact hxl5)
        have HP5 := hid_mk hpv5
        have e50 := (xl_hc HXR.out hbz hnb 0).trans hbx
        have e51 := (xl_hc HXR.out hbz hnb 1).trans hby
        have hbz5 : wr.heap.size < w5.heap.size := Nat.lt_of_lt_of_le hbz HXR.out.size
        clear hpv5 hp5 hxl5
        refine ⟨_, rfl, (fun _ => HXR.out), ?_⟩
        simp only [Act.put, List.setIfInBounds_toArray, List.set_cons_succ, List.set_cons_zero]
        refine plan_read _ (hi_of HO rfl) rfl (fun w' hE => by (repeat (with_reducible replace hE := Ext.unD hE)); have hcE := hE.hc; clear hE; go_simp; rfl) ?_
        simp only [Act.put, List.setIfInBounds_toArray, List.set_cons_succ, List.set_cons_zero]
        refine plan_read _ (hi_of HO rfl) rfl (fun w' hE => by (repeat (with_reducible replace hE := Ext.unD hE)); have hcE := hE.hc; clear hE; go_simp; rfl) ?_
        simp only [Act.put, List.setIfInBounds_toArray, List.set_cons_succ, List.set_cons_zero]
        refine plan_read _ (hi_of HO rfl) (by rw [HO.out]; rfl) (fun w' hE => by have hcP := fun o => Xl.hc hE wr.heap.size o hbz5 hnb; clear hE; go_simp; rfl) ?_
        simp only [Act.put, List.setIfInBounds_toArray, List.set_cons_succ, List.set_cons_zero]
        refine plan_call1 en_TmSame (hi_of HO rfl) (by rw [HO.out]; rfl) rfl (by go_simp; rfl) (by exact same_any ⟨HP5.out.a.pr.t, HP5.out.a.pr.d, HP5.out.a.pr.ap⟩) ?_
        rintro e w9 ⟨rfl, hx9⟩
        have HP9 := hid_mk (HP5.out.ext hx9)
        have HXR9 := hid_mk (Xl.of (L := L) hx9)
        clear hx9
        refine ⟨_, rfl, (fun _ => HXR9.out), ?_⟩
        simp only [Act.put, List.setIfInBounds_toArray, List.set_cons_succ, List.set_cons_zero]
        refine plan_read _ (hi_of HO rfl) (by rw [HO.out]; rfl) (fun w' hE => by (repeat (with_reducible replace hE := Ext.unD hE)); have hcE := hE.hc; clear hE; go_simp; rfl) ?_
        simp only [Act.put, List.setIfInBounds_toArray, List.set_cons_succ, List.set_cons_zero]
        refine plan_read _ (hi_of HO rfl) rfl (fun w' hE => by (repeat (with_reducible replace hE := Ext.unD hE)); have hcE := hE.hc; clear hE; go_simp; rfl) ?_
        simp only [Act.put, List.setIfInBounds_toArray, List.set_cons_succ, List.set_cons_zero]
        refine plan_done ?fin101
        go_wp2
        go_roundw
        case rel => exact ⟨m + 1, hlt, (by first | exact congrArg (Value.int .i64) HW1.out | rfl), v', rv', vb, rvb, by rw [HSA.out, HSB.out]; exact HP9.out⟩
        case measure => (try simp only [HW1.out]); simp [intOf]; first | done | omega
      · rw [if_neg (by decide)] at HSA
        rw [if_pos rfl] at HSB
        go_wp2_with fail
        refine gen_code (fun W4 => BoxAt wr W4 tb rb) (box_new wr tb rb) ?_
        intro W4 hb4
        obtain ⟨L, hL⟩ : ∃ L, fpP tb mb vb rb rvb = L := ⟨_, rfl⟩
        have hlz := fun x hx => (HP.out.sym.a.pr.fp_lt x hx).2
        have hlr := fun x hx => (HP.out.sym.a.pr.fp_lt x hx).1
        rw [hL] at hlz hlr
        have hbx := hb4.c0
        have hby := hb4.c1
        have hbz := hb4.sz
        have HX4 := hid_mk hb4.x
        have hnb : wr.heap.size ∉ L := fun h => by have := hlz _ h; omega
        have hnn : nb ∉ L := fun h => by have := hlr _ h; have := HNB.out; omega
        have HLL := hid_mk hL
        have b0 := cell_ext hb4.x a0
        have b1 := cell_ext hb4.x a1
        have b2 := cell_ext hb4.x a2
        have b3 := cell_ext hb4.x a3
        have b4 := cell_ext hb4.x a4
        have b5 := cell_ext hb4.x a5
        have b6 := cell_ext hb4.x a6
        have hnz := cell_lt b0
        clear hlz hlr hb4 hL a0 a1 a2 a3 a4 a5 a6 h0 h1 h2 h3 hpl hpl2 hnl2
        refine wp_region_held_plan (Xl L) (fun _ => true) (.quiet 0 (.quiet 1 (.quiet 2 (.quiet 3 (.quiet 4 (.alt 5 (.quiet 6 (.quiet 7 (.quiet 8 (.alt 9 (.quiet 10 (.quiet 11 .done)) .stop)))) .stop)))))) (by kernel_rfl) (by kernel_rfl) Xl.refl Xl.trans (by intro c a w d v h; cases d <;> exact h) (fun ops HO => ?_)
        refine plan_read _ (hi_of HO rfl) rfl (fun w' hE => by have hcP := xl_hc hE hbz hnb; have hcN := xl_hc hE hnz hnn; clear hE; go_simp; rfl) ?_
        simp only [Act.put, List.setIfInBounds_toArray, List.set_cons_succ, List.set_cons_zero]
        refine plan_read _ (hi_of HO rfl) rfl (fun w' hE => by (repeat (with_reducible replace hE := Ext.unD hE)); have hcE := hE.hc; clear hE; go_simp; rfl) ?_
        simp only [Act.put, List.setIfInBounds_toArray, List.set_cons_succ, List.set_cons_zero]
        refine plan_read _ (hi_of HO rfl) rfl (fun w' hE => by (repeat (with_reducible replace hE := Ext.unD hE)); have hcE := hE.hc; clear hE; go_simp; rfl) ?_
        simp only [Act.put, List.setIfInBounds_toArray, List.set_cons_succ, List.set_cons_zero]
        refine plan_read _ (hi_of HO rfl) rfl (fun w' hE => by (repeat (with_reducible replace hE := Ext.unD hE)); have hcE := hE.hc; clear hE; go_simp; rfl) ?_
        simp only [Act.put, List.setIfInBounds_toArray, List.set_cons_succ, List.set_cons_zero]
        refine plan_read _ (hi_of HO rfl) rfl (fun w' hE => by have hcP := xl_hc hE hbz hnb; have hcN := xl_hc hE hnz hnn; clear hE; go_simp; rfl) ?_
        simp only [Act.put, List.setIfInBounds_toArray, List.set_cons_succ, List.set_cons_zero]
        refine plan_call1 en_TmStep (hi_of HO rfl) rfl rfl (by go_simp; rfl) (by exact step_any (HP.out.sym.a.ext (Ext.drew HX4.out)).pr ⟨k, n, t, stop, true⟩ HLB.out) ?_
        rintro e w5 ⟨rfl, hp5⟩
        obtain ⟨v', rv', hpv5, hxl5⟩ := TwoV.step (HP.out.sym.ext (Ext.drew HX4.out)) hp5
        have HXR := hid_mk (show Xl L W4.drew w5 by rw [← HLL.out]; exact hxl5)
        have HP5 := hid_mk hpv5
        have e50 := (xl_hc HXR.out hbz hnb 0).trans hbx
        have e51 := (xl_hc HXR.out hbz hnb 1).trans hby
        have hbz5 : wr.heap.size < w5.heap.size := Nat.lt_of_lt_of_le hbz HXR.out.size
        clear hpv5 hp5 hxl5
        refine ⟨_, rfl, (fun _ => HXR.out), ?_⟩
        simp only [Act.put, List.setIfInBounds_toArray, List.set_cons_succ, List.set_cons_zero]
        refine plan_read _ (hi_of HO rfl) rfl (fun w' hE => by (repeat (with_reducible replace hE := Ext.unD hE)); have hcE := hE.hc; clear hE; go_simp; rfl) ?_
        simp only [Act.put, List.setIfInBounds_toArray, List.set_cons_succ, List.set_cons_zero]
        refine plan_read _ (hi_of HO rfl) rfl (fun w' hE => by (repeat (with_reducible replace hE := Ext.unD hE)); have hcE := hE.hc; clear hE; go_simp; rfl) ?_
        simp only [Act.put, List.setIfInBounds_toArray, List.set_cons_succ, List.set_cons_zero]
        refine plan_read _ (hi_of HO rfl) (by rw [HO.out]; rfl) (fun w' hE => by have hcP := fun o => Xl.hc hE wr.heap.size o hbz5 hnb; clear hE; go_simp; rfl) ?_
        simp only [Act.put, List.setIfInBounds_toArray, List.set_cons_succ, List.set_cons_zero]
        refine plan_call1 en_TmSame (hi_of HO rfl) (by rw [HO.out]; rfl) rfl (by go_simp; rfl) (by exact same_any ⟨HP5.out.a.pr.t, HP5.out.a.pr.d, HP5.out.a.pr.ap⟩) ?_
        rintro e w9 ⟨rfl, hx9⟩
        have HP9 := hid_mk (HP5.out.ext hx9)
        have HXR9 := hid_mk (Xl.of (L := L) hx9)
        clear hx9
        refine ⟨_, rfl, (fun _ => HXR9.out), ?_⟩
        simp only [Act.put, List.setIfInBounds_toArray, List.set_cons_succ, List.set_cons_zero]
        refine plan_read _ (hi_of HO rfl) (by rw [HO.out]; rfl) (fun w' hE => by (repeat (with_reducible replace hE := Ext.unD hE)); have hcE := hE.hc; clear hE; go_simp; rfl) ?_
        simp only [Act.put, List.setIfInBounds_toArray, List.set_cons_succ, List.set_cons_zero]
        refine plan_read _ (hi_of HO rfl) rfl (fun w' hE => by (repeat (with_reducible replace hE := Ext.unD hE)); have hcE := hE.hc; clear hE; go_simp; rfl) ?_
        simp only [Act.put, List.setIfInBounds_toArray, List.set_cons_succ, List.set_cons_zero]
        refine plan_done ?fin102
        go_wp2
        go_roundw
        case rel => exact ⟨m + 1, hlt, (by first | exact congrArg (Value.int .i64) HW1.out | rfl), va, rva, v', rv', by rw [HSA.out, HSB.out]; exact HP9.out.sym⟩
        case measure => (try simp only [HW1.out]); simp [intOf]; first | done | omega
    · obtain rfl : m = N.length := by omega
      rw [List.take_length] at HP
      have hmm : ¬ ((N.length : Nat) : Int) < (N.length : Int) := by omega
      have HLA := hid_mk (show (runB false N).length ≤ 512 by have h9 := runB_len false N; have h8 := HB.out; omega)
      have HLB := hid_mk (show (runB true N).length ≤ 512 by have h9 := runB_len true N; have h8 := HB.out; omega)
      have HDA := hid_mk (runB_due false N)
      have HDB := hid_mk (runB_due true N)
      obtain ⟨la, hla⟩ : ∃ la, runB false N = la := ⟨_, rfl⟩
      obtain ⟨lb, hlb⟩ : ∃ lb, runB true N = lb := ⟨_, rfl⟩
      rw [hla] at HP HLA HDA
      rw [hlb] at HP HLB HDB
      have d0 := HP.out.a.pr.d.c0
      have d1 := HP.out.b.pr.d.c0
      have hdl0 := cell_lt d0
      have hdl1 := cell_lt d1
      clear hla hlb hlt hm
      go_wp2_with fail
      refine wp_region_held_below (fun _ => true) (.quiet 0 (.quiet 1 (.quiet 3 (.quiet 4 (.quiet 5 (.quiet 6 (.quiet 7 (.alt 2 (.alt 8 (.quiet 9 (.quiet 10 (.quiet 11 (.quiet 13 (.quiet 14 (.quiet 15 (.quiet 16 (.quiet 17 (.alt 12 (.alt 18 (.quiet 19 (.quiet 20 .done)) .stop) .stop))))))))) .stop) .stop)))))))) (by kernel_rfl) (by kernel_rfl) (by intro c a w d v h; cases d <;> exact h) (fun ops HO => ?_)
      refine plan_read _ (hi_of HO rfl) rfl (fun w' hE => by (repeat (with_reducible replace hE := Ext.unD hE)); have hcE := hE.hc; clear hE; go_simp; rfl) ?_
      simp only [Act.put, List.setIfInBounds_toArray, List.set_cons_succ, List.set_cons_zero]
      refine plan_read _ (hi_of HO rfl) rfl (fun w' hE => by (repeat (with_reducible replace hE := Ext.unD hE)); have hcE := hE.hc; clear hE; go_simp; rfl) ?_
      simp only [Act.put, List.setIfInBounds_toArray, List.set_cons_succ, List.set_cons_zero]
      refine plan_read _ (hi_of HO rfl) rfl (fun w' hE => by (repeat (with_reducible replace hE := Ext.unD hE)); have hcE := hE.hc; clear hE; go_simp; rfl) ?_
      simp only [Act.put, List.setIfInBounds_toArray, List.set_cons_succ, List.set_cons_zero]
      refine plan_read _ (hi_of HO rfl) rfl (fun w' hE => by (repeat (with_reducible replace hE := Ext.unD hE)); have hcE := hE.hc; clear hE; go_simp; rfl) ?_
      simp only [Act.put, List.setIfInBounds_toArray, List.set_cons_succ, List.set_cons_zero]
      refine plan_read _ (hi_of HO rfl) rfl (fun w' hE => by (repeat (with_reducible replace hE := Ext.unD hE)); have hcE := hE.hc; clear hE; go_simp; rfl) ?_
      simp only [Act.put, List.setIfInBounds_toArray, List.set_cons_succ, List.set_cons_zero]
      refine plan_read _ (hi_of HO rfl) rfl (fun w' hE => by (repeat (with_reducible replace hE := Ext.unD hE)); have hcE := hE.hc; clear hE; go_simp; rfl) ?_
      simp only [Act.put, List.setIfInBounds_toArray, List.set_cons_succ, List.set_cons_zero]
      refine plan_read _ (hi_of HO rfl) rfl (fun w' hE => by (repeat (with_reducible replace hE := Ext.unD hE)); have hcE := hE.hc; clear hE; go_simp; rfl) ?_
      simp only [Act.put, List.setIfInBounds_toArray, List.set_cons_succ, List.set_cons_zero]
      refine plan_call1 en_TmDue (hi_of HO rfl) rfl rfl (by go_simp; rfl) (by exact due_any (HP.out.a.ext (Ext.drew (Ext.refl _))).pr.t 1099511627776 (by have := HLA.out; omega)) ?_
      rintro e w2 ⟨l2, n2, v2, rfl, hd2, hx2⟩
      have HD2 := hid_mk hd2
      have HX2 := hid_mk hx2
      clear hd2 hx2
      refine ⟨_, rfl, (fun _ => HX2.out), ?_⟩
      simp only [Act.put, List.setIfInBounds_toArray, List.set_cons_succ, List.set_cons_zero]
      refine plan_call1 en_TmGoes (hi_of HO rfl) rfl rfl (by go_simp; rfl) (by exact goes_any _ l2 n2 v2 rva la 1099511627776 0 HD2.out.cl HD2.out.cn (HD2.out.own.sl (by have := HLA.out; omega)) (by rw [HDA.out]; exact (HP.out.a.ext (Ext.trans _ _ _ (Ext.drew (Ext.refl _)) HX2.out)).pr.d.sl (by have := HLA.out; omega))) ?_
      rintro e w8 ⟨rfl, hx8⟩
      have HX8 := hid_mk hx8
      have x8 := Ext.trans _ _ _ (Ext.trans _ _ _ (Ext.drew (Ext.refl _)) HX2.out) HX8.out
      have p80 := cell_ext x8 h2
      have p81 := cell_ext x8 h3
      have p82 := cell_ext x8 d1
      have pl80 := cell_lt p80
      have pl81 := cell_lt p82
      clear x8
      clear hx8
      refine ⟨_, rfl, (fun _ => HX8.out), ?_⟩
      simp only [Act.put, List.setIfInBounds_toArray, List.set_cons_succ, List.set_cons_zero]
      refine plan_read _ (hi_of HO rfl) rfl (fun w' hE => by (repeat (with_reducible replace hE := Ext.unD hE)); have hcE := hE.hc; clear hE; go_simp; rfl) ?_
      simp only [Act.put, List.setIfInBounds_toArray, List.set_cons_succ, List.set_cons_zero]
      refine plan_read _ (hi_of HO rfl) (by rw [HO.out]; rfl) (fun w' hE => by (repeat (with_reducible replace hE := Ext.unD hE)); have hcE := hE.hc; clear hE; go_simp; rfl) ?_
      simp only [Act.put, List.setIfInBounds_toArray, List.set_cons_succ, List.set_cons_zero]
      refine plan_read _ (hi_of HO rfl) (by rw [HO.out]; rfl) (fun w' hE => by (repeat (with_reducible replace hE := Ext.unD hE)); have hcE := hE.hc; clear hE; go_simp; rfl) ?_
      simp only [Act.put, List.setIfInBounds_toArray, List.set_cons_succ, List.set_cons_zero]
      refine plan_read _ (hi_of HO rfl) (by rw [HO.out]; rfl) (fun w' hE => by (repeat (with_reducible replace hE := Ext.unD hE)); have hcE := hE.hc; clear hE; go_simp; rfl) ?_
      simp only [Act.put, List.setIfInBounds_toArray, List.set_cons_succ, List.set_cons_zero]
      refine plan_read _ (hi_of HO rfl) (by rw [HO.out]; rfl) (fun w' hE => by (repeat (with_reducible replace hE := Ext.unD hE)); have hcE := hE.hc; clear hE; go_simp; rfl) ?_
      simp only [Act.put, List.setIfInBounds_toArray, List.set_cons_succ, List.set_cons_zero]
      refine plan_read _ (hi_of HO rfl) (by rw [HO.out]; rfl) (fun w' hE => by (repeat (with_reducible replace hE := Ext.unD hE)); have hcE := hE.hc; clear hE; go_simp; rfl) ?_
      simp only [Act.put, List.setIfInBounds_toArray, List.set_cons_succ, List.set_cons_zero]
      refine plan_read _ (hi_of HO rfl) (by rw [HO.out]; rfl) (fun w' hE => by (repeat (with_reducible replace hE := Ext.unD hE)); have hcE := hE.hc; clear hE; go_simp; rfl) ?_
      simp only [Act.put, List.setIfInBounds_toArray, List.set_cons_succ, List.set_cons_zero]
      refine plan_read _ (hi_of HO rfl) (by rw [HO.out]; rfl) (fun w' hE => by (repeat (with_reducible replace hE := Ext.unD hE)); have hcE := hE.hc; clear hE; go_simp; rfl) ?_
      simp only [Act.put, List.setIfInBounds_toArray, List.set_cons_succ, List.set_cons_zero]
      refine plan_call1 en_TmDue (hi_of HO rfl) (by rw [HO.out]; rfl) rfl (by go_simp; rfl) (by exact due_any (HP.out.b.ext (Ext.trans _ _ _ (Ext.trans _ _ _ (Ext.drew (Ext.refl _)) HX2.out) HX8.out)).pr.t 1099511627776 (by have := HLB.out; omega)) ?_
      rintro e w12 ⟨l12, n12, v12, rfl, hd12, hx12⟩
      have HD12 := hid_mk hd12
      have HX12 := hid_mk hx12
      have x12 := Ext.trans _ _ _ (Ext.trans _ _ _ (Ext.trans _ _ _ (Ext.drew (Ext.refl _)) HX2.out) HX8.out) HX12.out
      have p120 := cell_ext x12 h2
      have p121 := cell_ext x12 h3
      have p122 := cell_ext x12 d1
      have pl120 := cell_lt p120
      have pl121 := cell_lt p122
      clear x12
      clear hd12 hx12
      refine ⟨_, rfl, (fun _ => HX12.out), ?_⟩
      simp only [Act.put, List.setIfInBounds_toArray, List.set_cons_succ, List.set_cons_zero]
      refine plan_call1 en_TmGoes (hi_of HO rfl) (by rw [HO.out]; rfl) rfl (by go_simp; rfl) (by exact goes_any _ l12 n12 v12 rvb lb 1099511627776 0 HD12.out.cl HD12.out.cn (HD12.out.own.sl (by have := HLB.out; omega)) (by rw [HDB.out]; exact (HP.out.b.ext (Ext.trans _ _ _ (Ext.trans _ _ _ (Ext.trans _ _ _ (Ext.drew (Ext.refl _)) HX2.out) HX8.out) HX12.out)).pr.d.sl (by have := HLB.out; omega))) ?_
      rintro e w18 ⟨rfl, hx18⟩
      have HPF := hid_mk (HP.out.a.ext (Ext.trans _ _ _ (Ext.trans _ _ _ (Ext.trans _ _ _ (Ext.trans _ _ _ (Ext.drew (Ext.refl _)) HX2.out) HX8.out) HX12.out) hx18)).x
      have HX18 := hid_mk hx18
      clear hx18
      refine ⟨_, rfl, (fun _ => HX18.out), ?_⟩
      simp only [Act.put, List.setIfInBounds_toArray, List.set_cons_succ, List.set_cons_zero]
      refine plan_read _ (hi_of HO rfl) rfl (fun w' hE => by (repeat (with_reducible replace hE := Ext.unD hE)); have hcE := hE.hc; clear hE; go_simp; rfl) ?_
      simp only [Act.put, List.setIfInBounds_toArray, List.set_cons_succ, List.set_cons_zero]
      refine plan_read _ (hi_of HO rfl) rfl (fun w' hE => by (repeat (with_reducible replace hE := Ext.unD hE)); have hcE := hE.hc; clear hE; go_simp; rfl) ?_
      simp only [Act.put, List.setIfInBounds_toArray, List.set_cons_succ, List.set_cons_zero]
      refine plan_done ?fin103
      go_wp2
      go_ret
      exact ⟨rfl, HPF.out⟩
end Go.Proofs.Ytiimoaplhhnklaa
