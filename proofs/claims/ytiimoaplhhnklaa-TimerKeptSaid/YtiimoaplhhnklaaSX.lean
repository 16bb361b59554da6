/- Timers: TimerKept, walked. -/
import Derived.Test.YtiimoaplhhnklaaSW
namespace Go.Proofs.Ytiimoaplhhnklaa
open Go.RowKit Go.Shelf
set_option maxHeartbeats 4000000
set_option maxRecDepth 100000
set_option linter.unusedSimpArgs false
set_option linter.unusedVariables false
attribute [-go_sem] Builtin.append_
attribute [local go_sem] Oper.semAt_some
attribute [local go_sem ↓] neq_nm eql_nm eql_seq

@[go_sem] theorem run_store_func {P : Program} {w : World} {a : Addr} {m : Mode} (f : Fn) (b c : Array Value) : (store a (.func f b c) m).run P w = stored P w a (.func f b c) m := run_store P w a _ m rfl
/-- The same, and nothing panics. -/
def NP (Q : Exit → Act → World → Prop) : Exit → Act → World → Prop
  | .panic _, _, _ => False
  | e, a, w => Q e a w
theorem np_of {Q : Exit → Act → World → Prop} : ∀ (e : Exit) (a : Act) (w : World), NP Q e a w → Q e a w
  | .panic _, _, _, h => h.elim
  | .normal, _, _, h => h
  | .ret, _, _, h => h
  | .exit _, _, _, h => h
  | .goto _, _, _, h => h
  | .outgrown, _, _, h => h
/-- What Due has given, of both, in variables. -/
structure KeptAt (B : Nat) (w : World) (wb : Nat) (wv : Value) (sb lb nb : Nat) (v : Value) (l : List Al) (t : Int) : Prop where
  c0 : w.cell? ⟨wb, 0, none⟩ = some wv
  own0 : OwnA w B 82 wv (dueA t l)
  c1 : w.cell? ⟨sb, 0, none⟩ = some (.func (.func 58) #[] #[.pointer (some ⟨lb, 0, none⟩), .pointer (some ⟨nb, 0, none⟩)])
  cl : w.cell? ⟨lb, 0, none⟩ = some v
  cn : w.cell? ⟨nb, 0, none⟩ = some (.int .i64 t)
  own1 : OwnA w B 106 v l
  lo : B ≤ wb ∧ B ≤ sb ∧ B ≤ lb ∧ B ≤ nb
theorem ownA_lo {w : World} {B : Nat} {ty : TypeId} {v : Value} {l : List Al} (h : OwnA w B ty v l) : ∀ g, v.ownBlock = some g → B ≤ g := fun g hg => by
  rcases h.2 with ⟨e1, e2⟩ | ⟨g', cap, cur, e1, e2, e3⟩
  · rw [e1] at hg; cases hg
  · rw [e1] at hg; cases hg; exact e2
theorem KeptAt.away {B : Nat} {w w' : World} {wb : Nat} {wv : Value} {sb lb nb : Nat} {v : Value} {l : List Al} {t : Int} {L : List Nat} (h : KeptAt B w wb wv sb lb nb v l t) (hx : Xl L w w') (hd : ∀ x ∈ L, x < B) : KeptAt B w' wb wv sb lb nb v l t :=
  have hn : ∀ k, B ≤ k → k ∉ L := fun k hk hm => by have := hd k hm; omega
  ⟨(hx.cell (cell_lt h.c0) (hn _ h.lo.1)).trans h.c0, xl_grown hx (fun g hg => hn g (ownA_lo h.own0 g hg)) h.own0, (hx.cell (cell_lt h.c1) (hn _ h.lo.2.1)).trans h.c1,
   (hx.cell (cell_lt h.cl) (hn _ h.lo.2.2.1)).trans h.cl, (hx.cell (cell_lt h.cn) (hn _ h.lo.2.2.2)).trans h.cn, xl_grown hx (fun g hg => hn g (ownA_lo h.own1 g hg)) h.own1, h.lo⟩
theorem KeptAt.ext {B : Nat} {w w' : World} {wb : Nat} {wv : Value} {sb lb nb : Nat} {v : Value} {l : List Al} {t : Int} (h : KeptAt B w wb wv sb lb nb v l t) (hx : Ext w w') : KeptAt B w' wb wv sb lb nb v l t :=
  h.away (L := []) (Xl.of hx) (fun _ h => by cases h)
/-- A pair that goes on, and beside it what was asked for. -/
structure KV (W W2 w : World) (pb tb mb : Nat) (v0 : Value) (rb : Nat) (rv0 : Value) (v rv : Value) (l : List Al) : Prop where
  p : PV W w pb tb mb v rb rv l
  x : Xl (fpP tb mb v0 rb rv0) W2 w
  f : ∀ x ∈ fpP tb mb v rb rv, x ∈ fpP tb mb v0 rb rv0 ∨ W2.heap.size ≤ x
theorem KV.step {W W2 w w' : World} {pb tb mb : Nat} {v0 : Value} {rb : Nat} {rv0 v rv : Value} {l l' : List Al} (h : KV W W2 w pb tb mb v0 rb rv0 v rv l) (hp : PPost W.heap.size w tb mb v rb rv l' w') :
    ∃ v' rv', KV W W2 w' pb tb mb v0 rb rv0 v' rv' l' := by
  obtain ⟨v', rv', h1, h2, h3⟩ := hp
  have hl := cell_lt h.p.c0
  have hz := h.x.size
  refine ⟨v', rv', ⟨h1, Xl.ext h.p.x h2 (fun k hk => (h.p.pr.fp_lt k hk).1), (h2.cell hl h.p.ne).trans h.p.c0, (h2.cell hl h.p.ne).trans h.p.c1, fun hm => (h3 pb hm).elim h.p.ne (by omega)⟩, ?_, fun x hx => ?_⟩
  · exact ⟨h2.os.trans h.x.os, h2.tape.trans h.x.tape, h2.output.trans h.x.output, Nat.le_trans h.x.size h2.size, fun k hk hn => (h2.block k (by omega) (fun h9 => (h.f k h9).elim hn (by omega))).trans (h.x.block k hk hn)⟩
  · rcases h3 x hx with h9 | h9
    · exact h.f x h9
    · exact .inr (by omega)
theorem KV.ext {W W2 w w' : World} {pb tb mb : Nat} {v0 : Value} {rb : Nat} {rv0 v rv : Value} {l : List Al} (h : KV W W2 w pb tb mb v0 rb rv0 v rv l) (hx : Ext w w') : KV W W2 w' pb tb mb v0 rb rv0 v rv l :=
  ⟨h.p.ext hx, Xl.trans _ _ _ h.x (Xl.of hx), h.f⟩
theorem runS_take' {N : List TOp} {m : Nat} {l : List Al} (h : m < N.length) : runS (N.take (m + 1)) l = stepL N[m] (runS (N.take m) l) := by
  unfold runS
  rw [List.take_succ_eq_append_getElem h, List.foldl_append]
  rfl
/-- Within the range over what was asked for. -/
structure NI (W : World) (k : Nat) (X : World) : Prop where
  bl : Below W.heap.size W X
  b0 : Boxed X W.heap.size 3 (.int .i64 (k : Int))
theorem NI.own {W : World} {k : Nat} {B : Nat} (hB : W.heap.size ≤ B) : OwnFrom (β := Unit) B (fun _ X => NI W k X) := fun s X Y row h hg hr => by
  have hr' : ∀ r, row = some r → ∃ o : Obj, X.heap[r]? = some o ∧ o.isCells = false := fun r e => (hr r e).2
  exact ⟨ownFrom_below (β := Unit) (Nat.le_refl _) hB s X Y row h.bl hg hr, boxed_own (β := Unit) _ _ (fun _ => _) s X Y row h.b0 hg hr'⟩
theorem NI.ext {W : World} {k : Nat} {X Y : World} (h : NI W k X) (hx : Ext X Y) : NI W k Y := ⟨h.bl.trans (hx.below.mono h.bl.size), (hx.below.block _ h.b0.lt).trans h.b0⟩
theorem NI.cntI {W : World} {k : Nat} {X : World} (h : NI W k X) {k' : Nat} {i : Int} (hi : (k' : Int) = i) : NI W k' (X.setCell ⟨W.heap.size, 0, none⟩ (.int .i64 i)) := by
  subst hi
  exact ⟨h.bl.setCell (Nat.le_refl _) _, h.b0.set _⟩
theorem keepsFrom_ext {B : Nat} {X Y : World} (hx : Ext X Y) : KeepsFrom B X Y := ⟨hx.below.size, fun k o h1 h2 h3 => (hx.below.block k (Array.getElem?_eq_some_iff.1 h2).1).trans h2⟩
theorem gen_act {P : Program} {c : Code} {Q : Exit → Act → World → Prop} {T : Array Value} {ds : List Deferred} {w : World} (h : ∀ A : Array Value, Hid (A = T) → c.wp P Q { tmps := A, defers := ds } w) : c.wp P Q { tmps := T, defers := ds } w := h T (hid_mk rfl)
theorem calls_round {P : Program} {f : FuncId} {args : Array Value} {w : World} {R : Ending → World → Prop} {l n : Nat} (h : Calls P f args w R) : CallsIn (Fence.wide.inRound l) n P f args w R := (callsIn_wide (n := n)).2 h
theorem fold2 (A : Array Value) (p q : Nat) (a b : Value) : Array.foldl (fun t (x : Nat × Value) => t.setIfInBounds x.1 x.2) A (#[p, q].zip #[a, b]) = (A.setIfInBounds p a).setIfInBounds q b := by simp
theorem timerKept_walk (N M : List TOp) (v0 v1 : Value) (t : Int) (W : World) (hN : OpsSl W v0 N) (hM : OpsSl W v1 M) :
    Calls Try.prog 7 #[v0, v1, .int .i64 t] W fun e w' => e = .returned (.bool true) ∧ Ext W w' := by
  obtain ⟨na, nc, rfl, hnc, hnl, hn⟩ := hN
  obtain ⟨ma, mc, rfl, hmc, hml, hm⟩ := hM
  have HN := hid_mk hn
  have HM := hid_mk hm
  clear hn hm
  by_cases hbig : 4096 < N.length
  · have hb : (4096 : Int) < (N.length : Int) := by omega
    go_enter Try.func7, Try.ntmps7
    go_wp2
    refine bodyPost_ret (v := .bool true) (by unfold results; rw [Try.results7]; go_simp) rfl ⟨rfl, ?_⟩
    (repeat (first | exact Ext.refl _ | apply Ext.drew_left | apply Ext.drew | apply Ext.alloc))
  by_cases hbig2 : 4096 < M.length
  · have hb : ¬ (4096 : Int) < (N.length : Int) := by omega
    have hb2 : (4096 : Int) < (M.length : Int) := by omega
    go_enter Try.func7, Try.ntmps7
    go_wp2
    refine bodyPost_ret (v := .bool true) (by unfold results; rw [Try.results7]; go_simp) rfl ⟨rfl, ?_⟩
    (repeat (first | exact Ext.refl _ | apply Ext.drew_left | apply Ext.drew | apply Ext.alloc))
  have hb : ¬ (4096 : Int) < (N.length : Int) := by omega
  have hb2 : ¬ (4096 : Int) < (M.length : Int) := by omega
  have HB := hid_mk (And.intro hbig hbig2)
  clear hbig hbig2
  refine (callsIn_wide (n := 5)).1 ?_
  refine callsIn_of_wp_marks Try.func7 rfl trivial (wpIn_wide.2 (wp_mono ?_ (np_of (Q := _)))) rfl
  simp only [Try.ntmps7, List.size_toArray, List.length_cons, List.length_nil, Nat.reduceAdd, Nat.reduceSub, Array.replicate_succ, Array.replicate_zero, List.push_toArray, List.append_toArray, List.nil_append, List.cons_append]
  go_wp2_with fail
  have hr0 : (W.alloc (.cells #[.bool false] 4)).cell? ⟨W.heap.size, 0, none⟩ = some (.bool false) := newc rfl
  have HRB := hid_mk (Boxed.new W 4 (.bool false))
  refine gen_calls (fun W0 => Ext W W0 ∧ Boxed W0 W.heap.size 4 (.bool false)) ⟨by (repeat (first | exact Ext.refl _ | apply Ext.drew_left | apply Ext.drew | apply Ext.alloc)), HRB.out⟩ ?_
  rintro W0 ⟨hxw, hrb⟩
  obtain ⟨qb, hqb⟩ : ∃ qb, W.heap.size = qb := ⟨_, rfl⟩
  rw [hqb] at hrb ⊢
  have HXW := hid_mk hxw
  have HQB := hid_mk (And.intro hqb hrb)
  clear hqb hrb hxw hr0 HRB
  refine (fresh_any W0).mono ?_
  rintro e W1 ⟨tb, mb, rb, rfl, hp, hx1⟩
  have HPV := hid_mk (PV.new hp hx1)
  clear hp hx1
  go_wp2_with fail
  refine gen_code (fun W2 => PV W0 W2 W1.heap.size tb mb (.slice none 0 0) rb (.slice none 0 0) []) HPV.out ?_
  intro W2 hpv
  obtain ⟨pb, hpb⟩ : ∃ pb, W1.heap.size = pb := ⟨_, rfl⟩
  rw [hpb] at hpv ⊢
  clear hpb HPV
  have HPV := hid_mk hpv
  clear hpv
  go_loopw [8] (fun x wr => ∃ m : Nat, m ≤ N.length ∧ x = .int .i64 (m : Int) ∧ ∃ v rv, PV W0 wr pb tb mb v rb rv (runS (N.take m) [])) (fun x _ => N.length - (intOf x).toNat)
  case atStart => exact ⟨0, Nat.zero_le _, rfl, _, _, HPV.out⟩
  case round =>
    clear HPV
    obtain ⟨m, hm, rfl, v, rv, hpv⟩ := hrel
    have HP := hid_mk hpv
    have h0 := hpv.c0
    have h1 := hpv.c1
    have hpl := cell_lt h0
    clear hpv
    by_cases hlt : m < N.length
    · have HS := hid_mk (runS_take hlt)
      have HL := hid_mk (show (runS (N.take m) []).length ≤ 10000000000 by
        have h9 := runS_len (N.take m) []
        have h8 := HB.out
        rw [List.length_take] at h9
        simp only [List.length_nil] at h9
        omega)
      obtain ⟨nb, no, rfl, hcl⟩ := HN.out (by omega)
      obtain ⟨a0, a1, a2, a3, a4, a5, a6⟩ := (hcl m hlt).ext (Ext.trans _ _ _ HXW.out HP.out.x)
      have hnl2 := cell_lt a0
      obtain ⟨y, hy⟩ : ∃ y, N[m] = y := ⟨_, rfl⟩
      rw [hy] at a0 a1 a2 a3 a4 a5 a6 HS
      have hm1 : (m : Int) < (N.length : Int) := by omega
      have hm0 : (0 : Int) ≤ (m : Int) := by omega
      have hw1 : wrap64 ((m : Int) + 1) = (m : Int) + 1 := w64in (by omega)
      have HW1 := hid_mk hw1
      clear hy hcl hw1
      go_wp2_with fail
      refine wp_region_held_planC Ext (fun i => i != 5) (fun i => [1, 2, 3, 6].contains i) (.quiet 0 (.quiet 1 (.quiet 2 (.quiet 3 (.quiet 4 (.alt 5 (.quiet 6 .done) .stop)))))) (by kernel_rfl) (by kernel_rfl) Ext.refl Ext.trans (by intro c a w d v h; cases d <;> exact h) (fun ops HO => ?_)
      refine planC_read _ (hi_of HO rfl) rfl rfl (fun w' hE => by (repeat (with_reducible replace hE := Ext.unD hE)); have hcE := hE.hc; clear hE; go_simp; rfl) ?_
      simp only [Act.put, List.setIfInBounds_toArray, List.set_cons_succ, List.set_cons_zero]
      refine planC_calm _ (hi_of HO rfl) rfl (fun w' => by go_simp; rfl) ?_
      simp only [Act.put, List.setIfInBounds_toArray, List.set_cons_succ, List.set_cons_zero]
      refine planC_calm _ (hi_of HO rfl) rfl (fun w' => by go_simp; rfl) ?_
      simp only [Act.put, List.setIfInBounds_toArray, List.set_cons_succ, List.set_cons_zero]
      refine planC_calm _ (hi_of HO rfl) rfl (fun w' => by go_simp; rfl) ?_
      simp only [Act.put, List.setIfInBounds_toArray, List.set_cons_succ, List.set_cons_zero]
      refine planC_read _ (hi_of HO rfl) rfl rfl (fun w' hE => by (repeat (with_reducible replace hE := Ext.unD hE)); have hcE := hE.hc; clear hE; go_simp; rfl) ?_
      simp only [Act.put, List.setIfInBounds_toArray, List.set_cons_succ, List.set_cons_zero]
      refine planC_call1 en_TmStep (hi_of HO rfl) rfl rfl (by go_simp; rfl) (by exact step_any (HP.out.ext (by (repeat (first | exact Ext.refl _ | apply Ext.drew_left | apply Ext.drew | apply Ext.alloc)))).pr y HL.out) ?_
      rintro e w5 ⟨rfl, hp5⟩
      obtain ⟨v', rv', hpv5⟩ := PV.step (HP.out.ext (by (repeat (first | exact Ext.refl _ | apply Ext.drew_left | apply Ext.drew | apply Ext.alloc)))) hp5
      have HP5 := hid_mk hpv5
      clear hpv5 hp5
      refine ⟨_, rfl, (fun h => absurd h (by decide)), ?_⟩
      simp only [Act.put, List.setIfInBounds_toArray, List.set_cons_succ, List.set_cons_zero]
      refine planC_calm _ (hi_of HO rfl) rfl (fun w' => by go_simp; rfl) ?_
      simp only [Act.put, List.setIfInBounds_toArray, List.set_cons_succ, List.set_cons_zero]
      refine planC_done ?fin101
      go_wp2
      go_roundw
      case rel => exact ⟨m + 1, hlt, (by first | exact congrArg (Value.int .i64) HW1.out | rfl), v', rv', by rw [HS.out]; exact HP5.out⟩
      case measure => (try simp only [HW1.out]); simp [intOf]; first | done | omega
    · obtain rfl : m = N.length := by omega
      rw [List.take_length] at HP
      have hmm : ¬ ((N.length : Nat) : Int) < (N.length : Int) := by omega
      have HL := hid_mk (show (runS N []).length ≤ 4096 by
        have h9 := runS_len N []
        have h8 := HB.out
        simp only [List.length_nil] at h9
        omega)
      obtain ⟨lf, hlf⟩ : ∃ lf, runS N [] = lf := ⟨_, rfl⟩
      rw [hlf] at HP HL
      clear hlf hlt hm
      go_wp2_with fail
      refine (rdue_any HP.out.pr.d t (by have := HL.out; omega)).mono ?_
      rintro e w1 ⟨v9, rfl, ho9, hx9⟩
      have k0 := cell_ext hx9 h0
      have k1 := cell_ext hx9 h1
      have hkl := cell_lt k0
      have hz1 := hx9.below.size
      obtain ⟨va9, vc9, rfl⟩ := own_form ho9
      have HP1 := hid_mk (HP.out.ext hx9)
      have HO9 := hid_mk ho9
      have HFP := hid_mk (fun x hx => (HP.out.pr.fp_lt x hx).2)
      obtain ⟨B, hB⟩ : ∃ B, wr.heap.size = B := ⟨_, rfl⟩
      rw [hB] at hz1 HO9 HFP hpl
      clear hx9 ho9 h0 h1 HP hB
      go_wp2_with fail
      refine gen_calls (fun W3 => Ext w1 W3 ∧ W3.cell? ⟨w1.heap.size, 0, none⟩ = some (.slice va9 (dueA t lf).length vc9) ∧ w1.heap.size < W3.heap.size) ⟨by (repeat (first | exact Ext.refl _ | apply Ext.drew_left | apply Ext.drew | apply Ext.alloc)), newc rfl, by simp⟩ ?_
      rintro W3 ⟨hx3, hw3, hwl3⟩
      obtain ⟨wb, hwb⟩ : ∃ wb, w1.heap.size = wb := ⟨_, rfl⟩
      rw [hwb] at hw3 hwl3 hz1 ⊢
      have HP3 := hid_mk (HP1.out.ext hx3)
      have HO3 := hid_mk (own_ext HO9.out hx3)
      clear hx3 hwb HP1 HO9 k0 k1 hkl hpl
      refine (due_any HP3.out.pr.t t (by have := HL.out; omega)).mono ?_
      rintro e w4 ⟨lb, nb, v4, rfl, hd4, hx4⟩
      have HP4 := hid_mk (HP3.out.ext hx4)
      have HO4 := hid_mk (own_ext HO3.out hx4)
      have HD4 := hid_mk hd4
      have hz4 := hx4.below.size
      have HW4 := hid_mk (cell_ext hx4 hw3)
      clear hx4 hd4 HP3 HO3 hw3
      go_wp2_with fail
      have HKA := hid_mk (show KeptAt B (w4.alloc (.cells #[.func (.func 58) #[] #[.pointer (some ⟨lb, 0, none⟩), .pointer (some ⟨nb, 0, none⟩)]] 73)) wb (.slice va9 (dueA t lf).length vc9) w4.heap.size lb nb v4 lf t from
        have hx : Ext w4 (w4.alloc (.cells #[.func (.func 58) #[] #[.pointer (some ⟨lb, 0, none⟩), .pointer (some ⟨nb, 0, none⟩)]] 73)) := by (repeat (first | exact Ext.refl _ | apply Ext.drew_left | apply Ext.drew | apply Ext.alloc))
        ⟨cell_ext hx HW4.out, own_ext HO4.out hx, newc rfl, cell_ext hx HD4.out.cl, cell_ext hx HD4.out.cn, OwnA.lower (own_ext HD4.out.own hx) (by omega), hz1, by omega, by have := HD4.out.lo.1; omega, by have := HD4.out.lo.2; omega⟩)
      refine gen_code (fun W5 => PV W0 W5 pb tb mb v rb rv lf ∧ KeptAt B W5 wb (.slice va9 (dueA t lf).length vc9) w4.heap.size lb nb v4 lf t) ⟨HP4.out.ext (by (repeat (first | exact Ext.refl _ | apply Ext.drew_left | apply Ext.drew | apply Ext.alloc))), HKA.out⟩ ?_
      rintro W5 ⟨hp5, hk5⟩
      obtain ⟨sb, hsb⟩ : ∃ sb, w4.heap.size = sb := ⟨_, rfl⟩
      rw [hsb] at hk5 ⊢
      have HK5 := hid_mk hk5
      have HV5 := hid_mk (show KV W0 W5 W5 pb tb mb v rb rv v rv lf from ⟨hp5, Xl.refl _, fun x hx => .inl hx⟩)
      clear hp5 hk5 hsb hz4 hz1 hwl3 HD4 HW4 HKA HP4 HO4
      go_loopw [11] (fun x wr => ∃ m : Nat, m ≤ M.length ∧ x = .int .i64 (m : Int) ∧ ∃ v' rv', KV W0 W5 wr pb tb mb v rb rv v' rv' (runS (M.take m) lf)) (fun x _ => M.length - (intOf x).toNat)
      case atStart => exact ⟨0, Nat.zero_le _, rfl, _, _, HV5.out⟩
      case round =>
        clear HV5
        obtain ⟨m, hm, rfl, v', rv', hpv⟩ := hrel
        have HP := hid_mk hpv
        have h0 := hpv.p.c0
        have h1 := hpv.p.c1
        have hpl := cell_lt h0
        clear hpv
        by_cases hlt : m < M.length
        · have HS := hid_mk (runS_take' (l := lf) hlt)
          have HL2 := hid_mk (show (runS (M.take m) lf).length ≤ 10000000000 by
            have h9 := runS_len (M.take m) lf
            have h8 := HB.out
            have h7 := HL.out
            rw [List.length_take] at h9
            omega)
          obtain ⟨nb, no, rfl, hcl⟩ := HM.out (by omega)
          obtain ⟨a0, a1, a2, a3, a4, a5, a6⟩ := (hcl m hlt).ext (Ext.trans _ _ _ HXW.out HP.out.p.x)
          have hnl2 := cell_lt a0
          obtain ⟨y, hy⟩ : ∃ y, M[m] = y := ⟨_, rfl⟩
          rw [hy] at a0 a1 a2 a3 a4 a5 a6 HS
          have hm1 : (m : Int) < (M.length : Int) := by omega
          have hm0 : (0 : Int) ≤ (m : Int) := by omega
          have hw1 : wrap64 ((m : Int) + 1) = (m : Int) + 1 := w64in (by omega)
          have HW1 := hid_mk hw1
          clear hy hcl hw1
          go_wp2_with fail
          refine wp_region_held_planC Ext (fun i => i != 5) (fun i => [1, 2, 3, 6].contains i) (.quiet 0 (.quiet 1 (.quiet 2 (.quiet 3 (.quiet 4 (.alt 5 (.quiet 6 .done) .stop)))))) (by kernel_rfl) (by kernel_rfl) Ext.refl Ext.trans (by intro c a w d v h; cases d <;> exact h) (fun ops HO => ?_)
          refine planC_read _ (hi_of HO rfl) rfl rfl (fun w' hE => by (repeat (with_reducible replace hE := Ext.unD hE)); have hcE := hE.hc; clear hE; go_simp; rfl) ?_
          simp only [Act.put, List.setIfInBounds_toArray, List.set_cons_succ, List.set_cons_zero]
          refine planC_calm _ (hi_of HO rfl) rfl (fun w' => by go_simp; rfl) ?_
          simp only [Act.put, List.setIfInBounds_toArray, List.set_cons_succ, List.set_cons_zero]
          refine planC_calm _ (hi_of HO rfl) rfl (fun w' => by go_simp; rfl) ?_
          simp only [Act.put, List.setIfInBounds_toArray, List.set_cons_succ, List.set_cons_zero]
          refine planC_calm _ (hi_of HO rfl) rfl (fun w' => by go_simp; rfl) ?_
          simp only [Act.put, List.setIfInBounds_toArray, List.set_cons_succ, List.set_cons_zero]
          refine planC_read _ (hi_of HO rfl) rfl rfl (fun w' hE => by (repeat (with_reducible replace hE := Ext.unD hE)); have hcE := hE.hc; clear hE; go_simp; rfl) ?_
          simp only [Act.put, List.setIfInBounds_toArray, List.set_cons_succ, List.set_cons_zero]
          refine planC_call1 en_TmStep (hi_of HO rfl) rfl rfl (by go_simp; rfl) (by exact step_any (HP.out.ext (by (repeat (first | exact Ext.refl _ | apply Ext.drew_left | apply Ext.drew | apply Ext.alloc)))).p.pr y HL2.out) ?_
          rintro e w5 ⟨rfl, hp5⟩
          obtain ⟨v6, rv6, hpv5⟩ := KV.step (HP.out.ext (by (repeat (first | exact Ext.refl _ | apply Ext.drew_left | apply Ext.drew | apply Ext.alloc)))) hp5
          have HP5 := hid_mk hpv5
          clear hpv5 hp5
          refine ⟨_, rfl, (fun h => absurd h (by decide)), ?_⟩
          simp only [Act.put, List.setIfInBounds_toArray, List.set_cons_succ, List.set_cons_zero]
          refine planC_calm _ (hi_of HO rfl) rfl (fun w' => by go_simp; rfl) ?_
          simp only [Act.put, List.setIfInBounds_toArray, List.set_cons_succ, List.set_cons_zero]
          refine planC_done ?fin102
          go_wp2
          go_roundw
          case rel => exact ⟨m + 1, hlt, (by first | exact congrArg (Value.int .i64) HW1.out | rfl), v6, rv6, by rw [HS.out]; exact HP5.out⟩
          case measure => (try simp only [HW1.out]); simp [intOf]; first | done | omega
        · obtain rfl : m = M.length := by omega
          rw [List.take_length] at HP
          have hmm : ¬ ((M.length : Nat) : Int) < (M.length : Int) := by omega
          obtain ⟨lg, hlg⟩ : ∃ lg, runS M lf = lg := ⟨_, rfl⟩
          rw [hlg] at HP
          have HK := hid_mk (HK5.out.away HP.out.x (by exact HFP.out))
          have HPP := hid_mk HP.out.p
          have s1 := HK.out.c1
          have s0 := HK.out.c0
          have sl1 := cell_lt s1
          have sl0 := cell_lt s0
          clear hlg hlt hm HP HK5 HFP
          go_wp2_with fail
          have hG0 : NI wr 0 (wr.alloc (.cells #[.int .i64 0] 3)) := ⟨(show Ext wr (wr.alloc (.cells #[.int .i64 0] 3)) by (repeat (first | exact Ext.refl _ | apply Ext.drew_left | apply Ext.drew | apply Ext.alloc))).below, Boxed.new _ _ _⟩
          have hz : wr.heap.size + 1 = (wr.alloc (.cells #[.int .i64 0] 3)).heap.size := by simp
          obtain ⟨W6, hW6⟩ : ∃ W6, wr.alloc (.cells #[.int .i64 0] 3) = W6 := ⟨_, rfl⟩
          rw [hW6] at hG0 hz ⊢
          clear hW6
          refine gen_act (fun A HA => ?_)
          refine (wpIn_wide (n := 5)).1 ?_
          refine wpIn_rangeFunc_ownH (F := Fence.wide) (n := 5) (encs := fun x : Al => #[.agg #[.int .i64 x.1.1, .int .i64 x.1.2.1, .int .i64 x.1.2.2], .int .i64 x.2]) rfl (by omega) (gf := 58) (lb := #[.pointer (some ⟨lb, 0, none⟩), .pointer (some ⟨nb, 0, none⟩)]) (by rw [HA.out]; rfl) trivial (enters_of Try.func58 (by kernel_rfl) rfl)
            (due_stops Fence.wide 4 trivial rfl (by omega) lb nb v4 lf t wr HK.out.cl HK.out.cn (HK.out.own1.sl (by have := HL.out; omega))) belowK_t (belowK_b (by omega)) hG0.bl (fun _ => rfl)
            (fun pre X => NI wr pre.length X)
            (fun c pre X => False)
            (fun s X Y row h hg hr => NI.own (by omega) () X Y row h hg hr)
            (fun c s X Y row h hg hr => h)
            hG0
            (fun x a' X => a' = { tmps := Array.foldl (fun t (x : Nat × Value) => t.setIfInBounds x.1 x.2) A (#[59, 60].zip #[.agg #[.int .i64 x.1.1, .int .i64 x.1.2.1, .int .i64 x.1.2.2], .int .i64 x.2]), defers := [] })
            (fun x a' _ X Y row hs hg hr => hs)
            ?assign ?body ?done ?stop
          case assign =>
            rintro lp pre x X K hB hK
            gi_wp2
            exact hK _ _ ⟨Nat.le_refl _, fun k o h1 h2 h3 => h2⟩ (Below.refl _ _) hB rfl
          case body =>
            rintro lp pre x a' X hl hr hg rfl hlt
            clear hr
            have HG := hid_mk hg
            have hkn := hg.b0.cell
            have hknl := cell_lt hkn
            have hkf := hg.b0.frozen
            have t1 := cell_ext (Ext.of hg.bl) s1
            have t0 := cell_ext (Ext.of hg.bl) s0
            have tl1 := cell_lt t1
            have tl0 := cell_lt t0
            have HKX := hid_mk (HK.out.ext (Ext.of hg.bl))
            have HWP := hid_mk (show wrap64 ((pre.length : Int) + 1) = (pre.length : Int) + 1 from w64in (by have := HL.out; have := dueA_len t lf; omega))
            rw [fold2, HA.out]
            simp only [List.setIfInBounds_toArray, List.set_cons_succ, List.set_cons_zero]
            clear hg
            by_cases h3 : (pre.length : Int) < 3
            · gi_wp2_with fail
              refine ⟨trivial, CallsIn.mono (calls_round (goes_any _ lb nb v4 (.slice va9 (dueA t lf).length vc9) lf t 0 HKX.out.cl HKX.out.cn (HKX.out.own1.sl (by have := HL.out; omega)) (HKX.out.own0.sl (by have := HL.out; have := dueA_len t lf; omega)))) ?_⟩
              rintro e X2 ⟨rfl, hx2⟩
              have HX2 := hid_mk hx2
              have hkn := (HG.out.ext hx2).b0.cell
              have hkf := (HG.out.ext hx2).b0.frozen
              clear hx2
              gi_wp2
              exact ⟨(keepsFrom_ext HX2.out).trans ((KeepsOthers.setCell _ _ _).from _), ((HX2.out.below.mono HG.out.bl.size).setCell (p := ⟨wr.heap.size, 0, none⟩) (Nat.le_refl _) _), (HG.out.ext HX2.out).cntI (by (try rw [HWP.out]); simp)⟩
            · have h4 : ¬ pre.length < 3 := by omega
              have h5 : 3 ≤ pre.length := by omega
              gi_wp2
              refine ⟨trivial, ?_⟩
              gi_wp2
              exact ⟨(KeepsOthers.setCell _ _ _).from _, (Below.refl _ _).setCell (p := ⟨wr.heap.size, 0, none⟩) (Nat.le_refl _) _, HG.out.cntI (by (try rw [HWP.out]); simp)⟩
          case done =>
            rintro D zs X hD hS hg hK
            obtain rfl : zs = dueA t lf := hS
            have HG := hid_mk hg
            have hkn := hg.b0.cell
            have hknl := cell_lt hkn
            have hkf := hg.b0.frozen
            have t1 := cell_ext (Ext.of hg.bl) s1
            have t0 := cell_ext (Ext.of hg.bl) s0
            have tl1 := cell_lt t1
            have tl0 := cell_lt t0
            have HKX := hid_mk (HK.out.ext (Ext.of hg.bl))
            have HPX := hid_mk (HPP.out.ext (Ext.of hg.bl))
            have HHK := hid_mk hK
            clear hg hK
            rw [HA.out]
            go_wp2_with fail
            refine (goes_any _ lb nb v4 (.slice va9 (dueA t lf).length vc9) lf t 0 HKX.out.cl HKX.out.cn (HKX.out.own1.sl (by have := HL.out; omega)) (HKX.out.own0.sl (by have := HL.out; have := dueA_len t lf; omega))).mono ?_
            rintro e X2 ⟨rfl, hx2⟩
            have HPX2 := hid_mk (HPX.out.ext hx2)
            have HK2 := hid_mk ((hx2.below.block D (Array.getElem?_eq_some_iff.1 HHK.out).1).trans HHK.out)
            have p0 := HPX2.out.c0
            have p1 := HPX2.out.c1
            have ppl := cell_lt p0
            clear hx2
            go_wp2_with fail
            refine (same_any ⟨HPX2.out.pr.t, HPX2.out.pr.d, HPX2.out.pr.ap⟩).mono ?_
            rintro e X3 ⟨rfl, hx3⟩
            have HX3 := hid_mk (Ext.trans _ _ _ HPX2.out.x hx3)
            have hK3 := (hx3.below.block D (Array.getElem?_eq_some_iff.1 HK2.out).1).trans HK2.out
            have hb3 : Boxed X3 qb 4 (.bool false) := (HX3.out.below.block _ HQB.out.2.lt).trans HQB.out.2
            have q0 := hb3.cell
            have q1 := hb3.frozen
            clear hx3
            go_wp2
            have hK' := (KeepsOthers.setCell X3 ⟨qb, 0, none⟩ (.bool true)).same D _ hK3 rfl
            have hc5 := cell_kept (World.cell?_setCell_same' X3 ⟨qb, 0, none⟩ (.bool true) (by rw [q0]; rfl)) (grownBy_putObj' _ D (.deferred none)) (fun r e => by cases e; exact ⟨_, hK', rfl⟩)
            show LeavesInM Fence.wide 5 Try.prog Try.f7 _ _ _ _ _
            refine ⟨by simp, .inl ⟨_, _, rfl, run_takeDeferred hK', ?_⟩⟩
            refine ⟨.bool true, ?_, rfl, ?_⟩
            · unfold results
              rw [Try.results7]
              simp [go_sem, hc5]
            · have z1 := HQB.out.1
              have z2 := HXW.out.below.size
              have z3 := HPP.out.x.below.size
              have hBW := (Ext.trans _ _ _ HXW.out HX3.out).below.setCell (p := ⟨qb, 0, none⟩) (by show W.heap.size ≤ qb; omega) (.bool true)
              exact Ext.of (hBW.trans (belowK_b (w := W) (Nat.le_refl _) _ D _ _ (by omega) hK' rfl rfl))
          case stop =>
            rintro D c pre X hD hS h hK
            exact h.elim
end Go.Proofs.Ytiimoaplhhnklaa
