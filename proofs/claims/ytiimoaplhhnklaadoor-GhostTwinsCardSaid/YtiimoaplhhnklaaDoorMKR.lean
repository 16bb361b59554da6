/- Judging: ghost's twins, walked. Judging: the document's turn, walked. -/
import Derived.Test.YtiimoaplhhnklaaDoorMKN
import Derived.Test.YtiimoaplhhnklaaDoorF4
import Derived.WalkMore
namespace Go.Proofs.YtiimoaplhhnklaaDoor
open Go.RowKit Go.Lib
set_option maxHeartbeats 4000000
set_option maxRecDepth 100000
set_option linter.unusedSimpArgs false
set_option linter.unusedVariables false
attribute [-go_sem] Builtin.append_

attribute [local go_sem ↓] eql_tally
def strO : Option Value → ByteArray
  | some (.string s) => s
  | _ => ⟨#[]⟩
def boolO : Option Value → Bool
  | some (.bool b) => b
  | _ => false
/-- The ranges that a slice shows. -/
def rgsOf (W : World) : Value → List Rg
  | .slice (some a) n _ => (List.range n).map fun i => ⟨strO (W.cell? ⟨a.block, a.off + i * 3, none⟩), strO (W.cell? ⟨a.block, a.off + i * 3 + 1, none⟩), boolO (W.cell? ⟨a.block, a.off + i * 3 + 2, none⟩)⟩
  | _ => []
theorem rgsOf_eq {W : World} {v : Value} {l : List Rg} (h : GSl cR 3 W v l) : rgsOf W v = l := by
  obtain ⟨a, c, rfl, -, hc⟩ := h
  rcases Nat.eq_zero_or_pos l.length with h0 | hp
  · obtain rfl : l = [] := List.length_eq_zero_iff.1 h0
    cases a <;> rfl
  · obtain ⟨b, o, rfl, hcl⟩ := hc hp
    refine List.ext_getElem (by simp [rgsOf]) fun i h1 h2 => ?_
    have e0 := hcl i h2 0 (by omega)
    have e1 := hcl i h2 1 (by omega)
    have e2 := hcl i h2 2 (by omega)
    simp only [cR, List.getElem?_cons_zero, List.getElem?_cons_succ, Nat.add_zero] at e0 e1 e2
    simp only [rgsOf, List.getElem_map, List.getElem_range, e0, e1, e2, strO, boolO]
/-- What twins has laid. -/
structure TwAt (w W : World) : Prop where
  x : Ext w W
  b : W.heap[w.heap.size]? = some (.cells #[.string ⟨#[]⟩, .string ⟨#[]⟩, .bool false] 26 (0, 0))
theorem TwAt.ext {w W W' : World} (h : TwAt w W) (hx : Ext W W') : TwAt w W' := ⟨Ext.trans _ _ _ h.x hx, (hx.below.block _ (Array.getElem?_eq_some_iff.1 h.b).1).trans h.b⟩
/-- Whose turn it is. -/
def Sides (av bv mv tv : Value) (a b mine theirs : List Ent) : Prop := (mv = bv ∧ tv = av ∧ mine = b ∧ theirs = a) ∨ (mv = av ∧ tv = bv ∧ mine = a ∧ theirs = b)
theorem Sides.swap {av bv mv tv : Value} {a b mine theirs : List Ent} (h : Sides av bv mv tv a b mine theirs) : Sides av bv tv mv a b theirs mine := by
  rcases h with ⟨h1, h2, h3, h4⟩ | ⟨h1, h2, h3, h4⟩
  · exact .inr ⟨h2, h1, h4, h3⟩
  · exact .inl ⟨h2, h1, h4, h3⟩
theorem Sides.ent {av bv mv tv : Value} {a b mine theirs : List Ent} {w : World} (h : Sides av bv mv tv a b mine theirs) (ha : EntSl w av a) (hb : EntSl w bv b) : EntSl w mv mine ∧ EntSl w tv theirs := by
  rcases h with ⟨rfl, rfl, rfl, rfl⟩ | ⟨rfl, rfl, rfl, rfl⟩
  · exact ⟨hb, ha⟩
  · exact ⟨ha, hb⟩
theorem Sides.ok {av bv mv tv : Value} {a b mine theirs : List Ent} (h : Sides av bv mv tv a b mine theirs) (ha : MapOk a) (hb : MapOk b) : MapOk mine ∧ MapOk theirs := by
  rcases h with ⟨rfl, rfl, rfl, rfl⟩ | ⟨rfl, rfl, rfl, rfl⟩
  · exact ⟨hb, ha⟩
  · exact ⟨ha, hb⟩
theorem Sides.wt {av bv mv tv : Value} {a b mine theirs : List Ent} (h : Sides av bv mv tv a b mine theirs) (l : List Rg) : wtL a b l = wtL mine theirs l := by
  rcases h with ⟨rfl, rfl, rfl, rfl⟩ | ⟨rfl, rfl, rfl, rfl⟩
  · exact wtL_comm _ _ _
  · rfl
/-- Within a turn: what is laid, and one range beside it. -/
structure LoAt (w W1 W : World) (B : Nat) (v : Value) (L : List Rg) (r : Rg) : Prop where
  t : TwAt w W
  x : Ext W1 W
  o : OwG 26 3 cR W W1.heap.size v L
  c0 : W.cell? ⟨B, 0, none⟩ = some (.string r.lo)
  c1 : W.cell? ⟨B, 1, none⟩ = some (.string r.hi)
  c2 : W.cell? ⟨B, 2, none⟩ = some (.bool r.op)
theorem LoAt.ext {w W1 W W' : World} {B : Nat} {v : Value} {L : List Rg} {r : Rg} (h : LoAt w W1 W B v L r) (hx : Ext W W') : LoAt w W1 W' B v L r := ⟨h.t.ext hx, Ext.trans _ _ _ h.x hx, h.o.ext hx, cell_ext hx h.c0, cell_ext hx h.c1, cell_ext hx h.c2⟩
theorem inR_ok {r : Rg} {l : List Ent} (h : MapOk l) (hr : rngCheck r.lo r.hi r.op = 0) : inE r.lo r.hi r.op l = 0 ∧ inR r.lo r.hi r.op l = inG r l := by
  have h1 : inE r.lo r.hi r.op l = 0 := by rw [inE, if_neg (fun e => e h.c), hr]
  exact ⟨h1, by rw [inR, if_pos h1]; rfl⟩
theorem find_hit {p : Rg → Bool} {l : List Rg} {k : Nat} (hk : k < l.length) (h0 : ∀ r ∈ l.take k, p r = false) (h1 : p l[k] = true) : l.find? p = some l[k] := by
  conv => lhs; rw [← List.take_append_drop k l, List.drop_eq_getElem_cons hk]
  rw [List.find?_append, List.find?_eq_none.2 (fun x hx => by rw [h0 x hx]; simp), Option.none_or, List.find?_cons_of_pos h1]
abbrev twV (o : Option Rg) : Value := .tuple #[rgV (o.getD ⟨⟨#[]⟩, ⟨#[]⟩, false⟩), .bool o.isSome]
theorem TwAt.app {w W1 W Z : World} {v : Value} {L : List Rg} {wr : World} (h : TwAt w W) (hg : W.grownBy Z v.ownBlock) (ho : OwG 26 3 cR W W1.heap.size v L) (hx : Ext W1 wr) (ht : TwAt w W1) : TwAt w Z := by
  have hl := (Array.getElem?_eq_some_iff.1 ht.b).1
  refine ⟨ext_grown h.x hg ho (Nat.le_of_lt (Nat.lt_of_le_of_lt (Nat.le_refl _) hl)), (hg.block _ (Array.getElem?_eq_some_iff.1 h.b).1 (fun e => ?_)).trans h.b⟩
  have := (World.ownsRow.lt ho _ e.symm).1
  omega
theorem twins0_any {w : World} (a b : List Ent) (av bv : Value) (br lf : Int) (ha : EntSl w av a) (hb : EntSl w bv b) (hl : LanesAt w) (ma : MapOk a) (mb : MapOk b) (hr : rightB br lf = true) :
    Calls Tryd.prog 20 #[av, bv, .int .i64 br, .int .i64 lf] w fun e w' => e = .returned (twV (twinsF br lf 600 b a [⟨⟨#[]⟩, ⟨#[]⟩, true⟩])) ∧ Ext w w' := by
  obtain ⟨bn, rfl⟩ : ∃ n : Nat, br = (n : Int) := ⟨br.toNat, by have h := of_decide_eq_true hr; omega⟩
  have hb2 : 2 ≤ bn := by have h := of_decide_eq_true hr; omega
  have hb16 : bn ≤ 16 := by have h := of_decide_eq_true hr; omega
  have hlf1 : 1 ≤ lf := by have h := of_decide_eq_true hr; omega
  have HS := hid_mk (And.intro ha hb)
  have HL := hid_mk hl
  have HM := hid_mk (And.intro ma mb)
  have HR := hid_mk hr
  obtain ⟨R, hR⟩ : ∃ R, twinsF (bn : Int) lf 600 b a [⟨⟨#[]⟩, ⟨#[]⟩, true⟩] = R := ⟨_, rfl⟩
  have HRES := hid_mk hR
  rw [hR]
  obtain ⟨xa, xc, rfl, -⟩ := ha
  obtain ⟨ya, yc, rfl, -⟩ := hb
  clear hl ma mb hr hR
  go_enter Tryd.func20, Tryd.ntmps20
  go_wp2_with fail
  refine gen_codeK (fun W => TwAt w W ∧ GSl cR 3 W (.slice (some ⟨w.heap.size + 1, 0, none⟩) 1 1) [⟨⟨#[]⟩, ⟨#[]⟩, true⟩]) ⟨⟨by (repeat (first | exact Ext.refl _ | apply Ext.drew_left | apply Ext.drew | apply Ext.alloc)), ?_⟩, gsl_rg (by go_simp) (by go_simp) (by go_simp)⟩ ?_
  · refine Eq.trans ?_ (heap_alloc_new w (.cells #[.string ⟨#[]⟩, .string ⟨#[]⟩, .bool false] 26))
    exact Below.heap_alloc _ _ _ (by simp)
  rintro W0 ⟨h0, h1⟩
  have HT0 := hid_mk h0
  have HN0 := hid_mk h1
  clear h0 h1
  go_loopw [10, 11, 12] (fun v mv tv wr => ∃ l mine theirs f, TwAt w wr ∧ GSl cR 3 wr v l ∧ Sides (.slice xa a.length xc) (.slice ya b.length yc) mv tv a b mine theirs ∧ NowOk mine theirs l ∧ wtL mine theirs l ≤ f ∧ twinsF (bn : Int) lf f mine theirs l = R) (fun v _ _ wr => wtL a b (rgsOf wr v))
  case atStart =>
    refine ⟨_, b, a, 600, HT0.out, HN0.out, .inl ⟨rfl, rfl, rfl, rfl⟩, nowOk_first HM.out.2 HM.out.1, ?_, HRES.out⟩
    refine wtL_le _ _ _ _ fun r hr => ?_
    have h1 := inF_len r.lo r.hi r.op a
    have h2 := inF_len r.lo r.hi r.op b
    have h3 := HM.out.1.n
    have h4 := HM.out.2.n
    unfold wtR inG
    omega
  case round =>
    clear HT0 HN0 HRES
    obtain ⟨l, mine, theirs, f, ht, hn, hsd, hno, hwf, hres⟩ := hrel
    have HT := hid_mk ht
    have HN := hid_mk hn
    have HSD := hid_mk hsd
    have HNO := hid_mk hno
    have HWF := hid_mk hwf
    have HRES := hid_mk hres
    obtain ⟨la, lc, rfl, hllc, hlc⟩ := hn
    have HLC := hid_mk hlc
    clear ht hsd hno hwf hres hlc
    by_cases hl0 : l = []
    · subst hl0
      have HRN := hid_mk (show R = none by rw [← HRES.out]; cases f <;> simp [twinsF])
      have hb8 := HT.out.b
      have c0 : wr.cell? ⟨w.heap.size, 0, none⟩ = some (.string ⟨#[]⟩) := by simp [World.cell?, hb8]
      have c1 : wr.cell? ⟨w.heap.size, 1, none⟩ = some (.string ⟨#[]⟩) := by simp [World.cell?, hb8]
      have c2 : wr.cell? ⟨w.heap.size, 2, none⟩ = some (.bool false) := by simp [World.cell?, hb8]
      have f0 : wr.frozen? ⟨w.heap.size, 0, none⟩ = false := by simp [World.frozen?, hb8]
      have f1 : wr.frozen? ⟨w.heap.size, 1, none⟩ = false := by simp [World.frozen?, hb8]
      have f2 : wr.frozen? ⟨w.heap.size, 2, none⟩ = false := by simp [World.frozen?, hb8]
      have cl8 := cell_lt c0
      clear hb8
      go_wp2
      (try (rw [Exit.noGoto_ret]; show bodyPost Tryd.prog Tryd.f20 (fun e w' => e = .returned (twV R) ∧ Ext w w') Exit.ret _ _))
      refine bodyPost_ret (v := twV none) (by unfold results; rw [Tryd.results20]; go_simp; first | done | rfl) rfl ⟨by rw [HRN.out], ?_⟩
      exact Xl.ext HT.out.x (L := [w.heap.size]) ((((Xl.refl wr).set (by simp)).set (by simp)).set (by simp)) (by simp)
    · have hp : 0 < l.length := List.length_pos_iff.2 hl0
      obtain ⟨lb, lf0, rfl, hcl⟩ := HLC.out hp
      have HCL := hid_mk hcl
      have HME := hid_mk (HSD.out.ent HS.out.1 HS.out.2)
      have HMO := hid_mk (HSD.out.ok HM.out.1 HM.out.2)
      have hll : l.length ≤ 256 := HNO.out.n
      obtain ⟨f, rfl⟩ : ∃ f', f = f' + 1 := ⟨f - 1, by
        have h1 := HWF.out
        have h2 : 0 < wtL mine theirs l := by
          cases l with
          | nil => exact absurd rfl hl0
          | cons r l => rw [wtL]; exact Nat.lt_of_lt_of_le (Nat.succ_pos _) (Nat.le_max_left _ _)
        omega⟩
      clear HLC hcl
      have hp' : (0 : Int) < (l.length : Int) := by omega
      go_wp2_with fail
      go_step3
      go_wp2_with fail
      go_step3
      go_wp2_with fail
      go_loopw [13, 29] (fun v i wr2 => ∃ k : Nat, k ≤ l.length ∧ i = .int .i64 (k : Int) ∧ TwAt w wr2 ∧ Ext wr wr2 ∧ OwG 26 3 cR wr2 wr.heap.size v ((l.take k).flatMap (nextR (bn : Int) lf mine theirs)) ∧ ∀ r ∈ l.take k, hitR mine theirs r = false) (fun _ i _ => l.length - (intOf i).toNat)
      case atStart => exact ⟨0, Nat.zero_le _, rfl, HT.out, Ext.refl _, ownG_nil _ _, fun r hr => by cases hr⟩
      case round =>
        obtain ⟨k, hk, rfl, ht2, hx2, ho2, hf2⟩ := hrel
        have HT2 := hid_mk ht2
        have HX2 := hid_mk hx2
        have HO2 := hid_mk ho2
        have HF2 := hid_mk hf2
        clear ht2 hx2 ho2 hf2
        by_cases hlt : k < l.length
        · have HRC := hid_mk (HNO.out.c l[k] (List.getElem_mem hlt))
          have HTK := hid_mk (show (l.take (k + 1)).flatMap (nextR (bn : Int) lf mine theirs) = (l.take k).flatMap (nextR (bn : Int) lf mine theirs) ++ nextR (bn : Int) lf mine theirs l[k] by rw [List.take_succ_eq_append_getElem hlt, List.flatMap_append, List.flatMap_singleton])
          have HHT := hid_mk (fun (h : hitR mine theirs l[k] = false) => (show ∀ r ∈ l.take (k + 1), hitR mine theirs r = false from fun r hr => by
            rw [List.take_succ_eq_append_getElem hlt] at hr
            rcases List.mem_append.1 hr with hr | hr
            · exact HF2.out r hr
            · rw [List.mem_singleton] at hr; rw [hr]; exact h))
          have HFH := hid_mk (fun (h : hitR mine theirs l[k] = true) => (show R = some l[k] by rw [← HRES.out, twinsF, if_neg hl0, find_hit hlt HF2.out h]))
          have e0 := HCL.out k hlt 0 (by omega)
          have e1 := HCL.out k hlt 1 (by omega)
          have e2 := HCL.out k hlt 2 (by omega)
          simp only [cR, List.getElem?_cons_zero, List.getElem?_cons_succ, Nat.add_zero] at e0 e1 e2
          replace e0 := cell_ext HX2.out e0
          replace e1 := cell_ext HX2.out e1
          replace e2 := cell_ext HX2.out e2
          have el := cell_lt e0
          obtain ⟨r, hr⟩ : ∃ r, l[k] = r := ⟨_, rfl⟩
          rw [hr] at HRC HTK HHT HFH e0 e1 e2
          have hk1 : (k : Int) < (l.length : Int) := by omega
          have hk0 : (0 : Int) ≤ (k : Int) := by omega
          have HW := hid_mk (show wrap64 ((k : Int) + 1) = (k : Int) + 1 from w64in (by omega))
          obtain ⟨X, hX⟩ : ∃ X, inG r mine = X := ⟨_, rfl⟩
          obtain ⟨Y, hY⟩ : ∃ Y, inG r theirs = Y := ⟨_, rfl⟩
          have HXG := hid_mk hX
          have HYG := hid_mk hY
          have HI1 := hid_mk (inR_ok HMO.out.1 HRC.out)
          have HI2 := hid_mk (inR_ok HMO.out.2 HRC.out)
          rw [hX] at HI1
          rw [hY] at HI2
          have hXl : X.length ≤ 256 := by rw [← hX]; exact Nat.le_trans (inF_len _ _ _ _) HMO.out.1.n
          have hYl : Y.length ≤ 256 := by rw [← hY]; exact Nat.le_trans (inF_len _ _ _ _) HMO.out.2.n
          clear hr hX hY
          go_wp2_with fail
          refine gen_callsK (fun W => LoAt w _ W wr.heap.size u13 ((l.take k).flatMap (nextR (bn : Int) lf mine theirs)) r) ⟨HT2.out.ext (by (repeat (first | exact Ext.refl _ | apply Ext.drew_left | apply Ext.drew | apply Ext.alloc))), Ext.trans _ _ _ HX2.out (by (repeat (first | exact Ext.refl _ | apply Ext.drew_left | apply Ext.drew | apply Ext.alloc))), HO2.out.ext (by (repeat (first | exact Ext.refl _ | apply Ext.drew_left | apply Ext.drew | apply Ext.alloc))), by go_simp, by go_simp, by go_simp⟩ ?_
          intro V0 h0
          refine (mIn_any r.lo r.hi r.op mine _ (HME.out.1.ext h0.t.x) (by have := HMO.out.1.n; omega)).mono ?_
          rintro e V1 ⟨x1, rfl, ho, hx⟩
          rw [HI1.out.1]
          rw [HI1.out.2] at ho
          have HA1 := hid_mk (h0.ext hx)
          have HXS := hid_mk (ho.sl (by omega))
          obtain ⟨xa1, xc1, rfl⟩ := own_form ho
          have c0 := HA1.out.c0
          have c1 := HA1.out.c1
          have c2 := HA1.out.c2
          have cl := cell_lt c0
          clear h0 ho hx e0 e1 e2 el
          go_wp2_with fail
          refine (mIn_any r.lo r.hi r.op theirs _ (HME.out.2.ext HA1.out.t.x) (by have := HMO.out.2.n; omega)).mono ?_
          rintro e V2 ⟨y1, rfl, ho, hx⟩
          rw [HI2.out.1]
          rw [HI2.out.2] at ho
          have HA2 := hid_mk (HA1.out.ext hx)
          have HYS := hid_mk (ho.sl (by omega))
          replace HXS := hid_mk (HXS.out.ext hx)
          obtain ⟨ya1, yc1, rfl⟩ := own_form ho
          clear ho hx HA1 c0 c1 c2 cl
          go_wp2_with fail
          refine (tlAll_any X _ (HL.out.ext HA2.out.t.x) HXS.out).mono ?_
          rintro e V3 ⟨rfl, hx⟩
          have HA3 := hid_mk (HA2.out.ext hx)
          replace HXS := hid_mk (HXS.out.ext hx)
          replace HYS := hid_mk (HYS.out.ext hx)
          clear hx HA2
          go_wp2_with fail
          refine (tlAll_any Y _ (HL.out.ext HA3.out.t.x) HYS.out).mono ?_
          rintro e V4 ⟨rfl, hx⟩
          have HA4 := hid_mk (HA3.out.ext hx)
          replace HXS := hid_mk (HXS.out.ext hx)
          replace HYS := hid_mk (HYS.out.ext hx)
          clear hx HA3
          obtain ⟨tq, htq⟩ : ∃ tq, decide ((X.length : Int) = (Y.length : Int) ∧ sum0 X = sum0 Y ∧ sum1 X = sum1 Y) = tq := ⟨_, rfl⟩
          have HTQ := hid_mk (show talEq X Y = tq from htq)
          obtain ⟨al, hal⟩ : ∃ al, alikeB X Y = al := ⟨_, rfl⟩
          have HAL := hid_mk hal
          have HHR := hid_mk (show hitR mine theirs r = (tq && !al) by rw [hitR, HXG.out, HYG.out, HTQ.out, hal])
          clear hal
          have c0 := HA4.out.c0
          have c1 := HA4.out.c1
          have c2 := HA4.out.c2
          have cl := cell_lt c0
          cases tq with
          | true =>
            have HNX := hid_mk (show nextR (bn : Int) lf mine theirs r = [] by rw [nextR, HXG.out, HYG.out, if_pos HTQ.out])
            go_wp2_with fail
            refine (alike_any X Y _ _ HXS.out HYS.out (by omega) (by omega)).mono ?_
            rintro e V5 ⟨rfl, hx⟩
            rw [HAL.out]
            have HA5 := hid_mk (HA4.out.ext hx)
            clear hx c0 c1 c2 cl
            have d0 := HA5.out.c0
            have d1 := HA5.out.c1
            have d2 := HA5.out.c2
            have dl := cell_lt d0
            cases al with
            | false =>
              have HRN := hid_mk (HFH.out HHR.out)
              have HTV := hid_mk HA5.out.t
              have hb8 := HTV.out.b
              have c0 : V5.cell? ⟨w.heap.size, 0, none⟩ = some (.string ⟨#[]⟩) := by simp [World.cell?, hb8]
              have c1 : V5.cell? ⟨w.heap.size, 1, none⟩ = some (.string ⟨#[]⟩) := by simp [World.cell?, hb8]
              have c2 : V5.cell? ⟨w.heap.size, 2, none⟩ = some (.bool false) := by simp [World.cell?, hb8]
              have f0 : V5.frozen? ⟨w.heap.size, 0, none⟩ = false := by simp [World.frozen?, hb8]
              have f1 : V5.frozen? ⟨w.heap.size, 1, none⟩ = false := by simp [World.frozen?, hb8]
              have f2 : V5.frozen? ⟨w.heap.size, 2, none⟩ = false := by simp [World.frozen?, hb8]
              have cl8 := cell_lt c0
              clear hb8
              go_wp2
              (try (rw [Exit.noGoto_ret]; show bodyPost Tryd.prog Tryd.f20 (fun e w' => e = .returned (twV R) ∧ Ext w w') Exit.ret _ _))
              refine bodyPost_ret (v := twV (some r)) (by unfold results; rw [Tryd.results20]; go_simp; first | done | rfl) rfl ⟨by rw [HRN.out], ?_⟩
              exact Xl.ext HTV.out.x (L := [w.heap.size]) ((((Xl.refl V5).set (by simp)).set (by simp)).set (by simp)) (by simp)
            | true =>
              go_wp2
              go_roundw
              case rel => exact ⟨k + 1, hlt, (by first | exact congrArg (Value.int .i64) HW.out | rfl), HA5.out.t, HA5.out.x, by rw [HTK.out, HNX.out, List.append_nil]; exact HA5.out.o, HHT.out HHR.out⟩
              case measure => (try simp only [HW.out]); simp [intOf]; omega
          | false =>
            by_cases hlf : (X.length : Int) ≤ lf
            · have HNX := hid_mk (show nextR (bn : Int) lf mine theirs r = [] by rw [nextR, HXG.out, HYG.out, if_neg (by rw [HTQ.out]; simp), if_pos hlf])
              go_wp2
              go_roundw
              case rel => exact ⟨k + 1, hlt, (by first | exact congrArg (Value.int .i64) HW.out | rfl), HA4.out.t, HA4.out.x, by rw [HTK.out, HNX.out, List.append_nil]; exact HA4.out.o, HHT.out HHR.out⟩
              case measure => (try simp only [HW.out]); simp [intOf]; omega
            · have HNX := hid_mk (show nextR (bn : Int) lf mine theirs r = rangesL r (keysL X) (min bn X.length) by rw [nextR, HXG.out, HYG.out, if_neg (by rw [HTQ.out]; simp), if_neg hlf, Int.toNat_natCast])
              have HSP := hid_mk (fun (p : Nat) (h1 : 1 ≤ p) (h2 : p ≤ X.length) => (show SplOk r (keysL X) p by rw [← HXG.out]; exact splOk HMO.out.1 HRC.out h1 (by rw [HXG.out]; exact h2)))
              have HTL := hid_mk (HNO.out.take (br := (bn : Int)) (lf := lf) HR.out HMO.out.1 k)
              have HNL := hid_mk (next_len (br := (bn : Int)) (lf := lf) (theirs := theirs) HMO.out.1 r)
              rw [HNX.out] at HNL
              go_wp2_with fail
              rw [show min (bn : Int) (X.length : Int) = ((min bn X.length : Nat) : Int) by omega]
              refine (ghSplit_any r X _ ((min bn X.length)) HXS.out (HSP.out _ (by omega) (by omega))).mono ?_
              rintro e V5 ⟨sv, rfl, ho, hx⟩
              have HA5 := hid_mk (HA4.out.ext hx)
              have hgs := OwG.sl (k := 3) (by omega) (fun _ => rfl) ho
              obtain ⟨v', w', hrun, hon, hg, hob⟩ := appendG okR (w := V5) HA5.out.o hgs (by have := HTL.out; have := HNL.out; omega) HA5.out.x.below.size
              have HB := hid_mk (show TwAt w w' ∧ Ext _ w' ∧ OwG 26 3 cR w' _ v' ((l.take (k + 1)).flatMap (nextR (bn : Int) lf mine theirs)) from ⟨HA5.out.t.app hg HA5.out.o HX2.out HT.out, ext_grown HA5.out.x hg HA5.out.o (Nat.le_refl _), by rw [HTK.out, HNX.out]; exact hon⟩)
              obtain ⟨sa, sc, hsv⟩ := own_form ho
              subst hsv
              clear c0 c1 c2 cl ho hx hgs hon hg hob
              go_wp2
              go_roundw
              case rel => exact ⟨k + 1, hlt, (by first | exact congrArg (Value.int .i64) HW.out | rfl), HB.out.1, HB.out.2.1, HB.out.2.2, HHT.out HHR.out⟩
              case measure => (try simp only [HW.out]); simp [intOf]; omega
        · obtain rfl : k = l.length := by omega
          have hmm : ¬ ((l.length : Nat) : Int) < (l.length : Int) := by omega
          rw [List.take_length] at HO2 HF2
          have HNF := hid_mk (show twinsF (bn : Int) lf f theirs mine (l.flatMap (nextR (bn : Int) lf mine theirs)) = R by
            rw [← HRES.out, twinsF, if_neg hl0, List.find?_eq_none.2 (fun x hx => by rw [HF2.out x hx]; simp)])
          have HWT := hid_mk (next_wt (theirs := theirs) (lf := lf) HR.out HMO.out.1 HNO.out.c hl0)
          have HG := hid_mk (OwG.sl (k := 3) (by omega) (fun _ => rfl) HO2.out)
          go_wp2
          refine ⟨⟨_, theirs, mine, f, HT2.out, HG.out, HSD.out.swap, (HNO.out.next HR.out HMO.out.1).swap, ?_, HNF.out⟩, ?_⟩
          · rw [wtL_comm]
            have := HWT.out
            have := HWF.out
            omega
          · rw [rgsOf_eq HG.out, rgsOf_eq HN.out, HSD.out.wt, HSD.out.wt]
            exact HWT.out
end Go.Proofs.YtiimoaplhhnklaaDoor
namespace Go.Proofs.YtiimoaplhhnklaaDoor
open Go.RowKit Go.Lib
set_option maxHeartbeats 4000000
set_option maxRecDepth 100000
set_option linter.unusedSimpArgs false
set_option linter.unusedVariables false
attribute [-go_sem] Builtin.append_
attribute [local go_sem ↓] eql_tally
theorem en_rKeys : Enters Tryd.prog 44 := ⟨_, Tryd.func44, by kernel_rfl, rfl⟩
/-- Within a turn of the document's: what is laid, and the ranges that came. -/
structure RtAt (w W : World) (v : Value) (L : List Rg) : Prop where
  t : TwAt w W
  o : OwG 26 3 cR W (w.heap.size + 1) v L
theorem RtAt.ext {w W W' : World} {v : Value} {L : List Rg} (h : RtAt w W v L) (hx : Ext W W') : RtAt w W' v L := ⟨h.t.ext hx, h.o.ext hx⟩
theorem RtAt.app {w W Z : World} {v v' : Value} {L L' : List Rg} (h : RtAt w W v L) (hg : W.grownBy Z v.ownBlock) (ho : OwG 26 3 cR Z (w.heap.size + 1) v' L') : RtAt w Z v' L' := by
  refine ⟨⟨ext_grown h.t.x hg h.o (by omega), (hg.block _ (Array.getElem?_eq_some_iff.1 h.t.b).1 (fun e => ?_)).trans h.t.b⟩, ho⟩
  have := (World.ownsRow.lt h.o _ e.symm).1
  omega
theorem ext_set3 {w W W' : World} {g : Nat} {a b c : Value} (h : Ext w W) (hg : w.heap.size ≤ g) (hx : Ext (((W.setCell ⟨g, 0, none⟩ a).setCell ⟨g, 1, none⟩ b).setCell ⟨g, 2, none⟩ c) W') : Ext w W' :=
  Ext.trans _ _ _ (Xl.ext h (L := [g]) ((((Xl.refl W).set (by simp)).set (by simp)).set (by simp)) (by simp; exact hg)) hx
theorem mapOk_key {l : List Ent} (h : MapOk l) (r : Rg) : ∀ e ∈ inG r l, e.key.size ≤ 900000000 := fun e he => by
  have := eChk_key (mChkP_all _ _ h.c e (List.mem_filter.1 he).1)
  omega
abbrev zRg : Rg := ⟨⟨#[]⟩, ⟨#[]⟩, false⟩
theorem rTurn_any {w : World} (mine theirs : List Ent) (mv tv lv : Value) (l : List Rg) (br lf : Int) (hm : EntSl w mv mine) (ht : EntSl w tv theirs) (hv : GSl cR 3 w lv l) (om : MapOk mine) (ot : MapOk theirs) (hr : rightB br lf = true) (hno : NowOk mine theirs l) :
    Calls Tryd.prog 23 #[mv, tv, lv, .int .i64 br, .int .i64 lf] w fun e w' => ∃ v, e = .returned (.tuple #[v, rgV ((l.find? (hitR mine theirs)).getD zRg), .bool (l.find? (hitR mine theirs)).isSome]) ∧ (l.find? (hitR mine theirs) = none → OwG 26 3 cR w' w.heap.size v (l.flatMap (nextR br lf mine theirs))) ∧ Ext w w' := by
  obtain ⟨bn, rfl⟩ : ∃ n : Nat, br = (n : Int) := ⟨br.toNat, by have h := of_decide_eq_true hr; omega⟩
  have hb2 : 2 ≤ bn := by have h := of_decide_eq_true hr; omega
  have hb16 : bn ≤ 16 := by have h := of_decide_eq_true hr; omega
  have hlf1 : 1 ≤ lf := by have h := of_decide_eq_true hr; omega
  have HME := hid_mk (And.intro hm ht)
  have HMO := hid_mk (And.intro om ot)
  have HR := hid_mk hr
  have HNO := hid_mk hno
  have hll : l.length ≤ 256 := hno.n
  obtain ⟨xa, xc, rfl, -⟩ := hm
  obtain ⟨ya, yc, rfl, -⟩ := ht
  obtain ⟨la, lc, rfl, hllc, hlc⟩ := hv
  have HLC := hid_mk hlc
  obtain ⟨R, hR⟩ : ∃ R, l.find? (hitR mine theirs) = R := ⟨_, rfl⟩
  have HRES := hid_mk hR
  rw [hR]
  clear om ot hr hno hlc hR
  go_enter Tryd.func23, Tryd.ntmps23
  go_wp2_with fail
  go_loopw [13, 14] (fun v i wr => ∃ k : Nat, k ≤ l.length ∧ i = .int .i64 (k : Int) ∧ RtAt w wr v ((l.take k).flatMap (nextR (bn : Int) lf mine theirs)) ∧ ∀ r ∈ l.take k, hitR mine theirs r = false) (fun _ i _ => l.length - (intOf i).toNat)
  case atStart =>
    refine ⟨0, Nat.zero_le _, rfl, ⟨⟨by (repeat (first | exact Ext.refl _ | apply Ext.drew_left | apply Ext.drew | apply Ext.alloc)), ?_⟩, ownG_empty (by have h := heap_alloc_new (w.alloc (.cells #[.string ⟨#[]⟩, .string ⟨#[]⟩, .bool false] 26)) (.cells #[] 26); rw [World.size_alloc] at h; exact h) (Nat.le_refl _)⟩, fun r hr => by cases hr⟩
    refine Eq.trans ?_ (heap_alloc_new w (.cells #[.string ⟨#[]⟩, .string ⟨#[]⟩, .bool false] 26))
    exact Below.heap_alloc _ _ _ (by simp)
  case round =>
    obtain ⟨k, hk, rfl, ha2, hf2⟩ := hrel
    have HA := hid_mk ha2
    have HF2 := hid_mk hf2
    clear ha2 hf2
    by_cases hlt : k < l.length
    · obtain ⟨lb, lf0, rfl, hcl⟩ := HLC.out (by omega)
      have HRC := hid_mk (HNO.out.c l[k] (List.getElem_mem hlt))
      have HTK := hid_mk (show (l.take (k + 1)).flatMap (nextR (bn : Int) lf mine theirs) = (l.take k).flatMap (nextR (bn : Int) lf mine theirs) ++ nextR (bn : Int) lf mine theirs l[k] by rw [List.take_succ_eq_append_getElem hlt, List.flatMap_append, List.flatMap_singleton])
      have HHT := hid_mk (fun (h : hitR mine theirs l[k] = false) => (show ∀ r ∈ l.take (k + 1), hitR mine theirs r = false from fun r hr => by
        rw [List.take_succ_eq_append_getElem hlt] at hr
        rcases List.mem_append.1 hr with hr | hr
        · exact HF2.out r hr
        · rw [List.mem_singleton] at hr; rw [hr]; exact h))
      have HFH := hid_mk (fun (h : hitR mine theirs l[k] = true) => (show R = some l[k] by rw [← HRES.out, find_hit hlt HF2.out h]))
      have e0 := hcl k hlt 0 (by omega)
      have e1 := hcl k hlt 1 (by omega)
      have e2 := hcl k hlt 2 (by omega)
      simp only [cR, List.getElem?_cons_zero, List.getElem?_cons_succ, Nat.add_zero] at e0 e1 e2
      obtain ⟨r, hr⟩ : ∃ r, l[k] = r := ⟨_, rfl⟩
      rw [hr] at HRC HTK HHT HFH e0 e1 e2
      have HEL := hid_mk (And.intro e0 (And.intro e1 e2))
      clear e0 e1 e2
      have hk1 : (k : Int) < (l.length : Int) := by omega
      have hk0 : (0 : Int) ≤ (k : Int) := by omega
      have HW := hid_mk (show wrap64 ((k : Int) + 1) = (k : Int) + 1 from w64in (by omega))
      obtain ⟨X, hX⟩ : ∃ X, inG r mine = X := ⟨_, rfl⟩
      obtain ⟨Y, hY⟩ : ∃ Y, inG r theirs = Y := ⟨_, rfl⟩
      have HXG := hid_mk hX
      have HYG := hid_mk hY
      have HI1 := hid_mk (inR_ok HMO.out.1 HRC.out)
      have HI2 := hid_mk (inR_ok HMO.out.2 HRC.out)
      have HKZ := hid_mk (And.intro (mapOk_key HMO.out.1 r) (mapOk_key HMO.out.2 r))
      rw [hX] at HI1 HKZ
      rw [hY] at HI2 HKZ
      have hXl : X.length ≤ 256 := by rw [← hX]; exact Nat.le_trans (inF_len _ _ _ _) HMO.out.1.n
      have hYl : Y.length ≤ 256 := by rw [← hY]; exact Nat.le_trans (inF_len _ _ _ _) HMO.out.2.n
      clear hr hX hY hcl
      have e0 := cell_ext HA.out.t.x HEL.out.1
      have e1 := cell_ext HA.out.t.x HEL.out.2.1
      have e2 := cell_ext HA.out.t.x HEL.out.2.2
      have el := cell_lt e0
      go_wp2_with fail
      refine (rIn_any r.lo r.hi r.op mine _ (HME.out.1.ext HA.out.t.x) (by have := HMO.out.1.n; omega)).mono ?_
      rintro e V1 ⟨x1, rfl, ho, hx⟩
      rw [HI1.out.2] at ho
      have HA1 := hid_mk (HA.out.ext hx)
      have HXS := hid_mk (ho.sl (by omega))
      obtain ⟨xa1, xc1, rfl⟩ := own_form ho
      clear ho hx HA
      clear e0 e1 e2 el
      have e0 := cell_ext HA1.out.t.x HEL.out.1
      have e1 := cell_ext HA1.out.t.x HEL.out.2.1
      have e2 := cell_ext HA1.out.t.x HEL.out.2.2
      have el := cell_lt e0
      go_wp2_with fail
      refine (rIn_any r.lo r.hi r.op theirs _ (HME.out.2.ext HA1.out.t.x) (by have := HMO.out.2.n; omega)).mono ?_
      rintro e V2 ⟨y1, rfl, ho, hx⟩
      rw [HI2.out.2] at ho
      have HA2 := hid_mk (HA1.out.ext hx)
      have HYS := hid_mk (ho.sl (by omega))
      replace HXS := hid_mk (HXS.out.ext hx)
      obtain ⟨ya1, yc1, rfl⟩ := own_form ho
      clear ho hx HA1
      clear e0 e1 e2 el
      go_wp2_with fail
      refine (r9Differ_any X Y _ _ HXS.out HYS.out (by omega) (by omega)).mono ?_
      rintro e V3 ⟨dv, rfl, ⟨D, hD, hDn⟩, hx⟩
      have HA3 := hid_mk (HA2.out.ext hx)
      replace HXS := hid_mk (HXS.out.ext hx)
      replace HYS := hid_mk (HYS.out.ext hx)
      obtain ⟨da, dc, rfl⟩ := own_form hD
      obtain ⟨dn, hdn⟩ : ∃ dn, D.length = dn := ⟨_, rfl⟩
      have HAL := hid_mk (show alikeB X Y = decide (dn = 0) by rw [alikeB, ← hdn, hDn]; cases difR X Y <;> simp)
      rw [hdn]
      clear hD hDn hx HA2 hdn
      go_wp2_with fail
      refine (r5All_any X _ HXS.out HKZ.out.1).mono ?_
      rintro e V4 ⟨rfl, hx⟩
      have HA4 := hid_mk (HA3.out.ext hx)
      replace HXS := hid_mk (HXS.out.ext hx)
      replace HYS := hid_mk (HYS.out.ext hx)
      clear hx HA3
      go_wp2_with fail
      refine (r5All_any Y _ HYS.out HKZ.out.2).mono ?_
      rintro e V5 ⟨rfl, hx⟩
      have HA5 := hid_mk (HA4.out.ext hx)
      replace HXS := hid_mk (HXS.out.ext hx)
      replace HYS := hid_mk (HYS.out.ext hx)
      clear hx HA4
      obtain ⟨tq, htq⟩ : ∃ tq, decide ((X.length : Int) = (Y.length : Int) ∧ sum0 X = sum0 Y ∧ sum1 X = sum1 Y) = tq := ⟨_, rfl⟩
      have HTQ := hid_mk (show talEq X Y = tq from htq)
      have HHR := hid_mk (show hitR mine theirs r = (tq && !decide (dn = 0)) by rw [hitR, HXG.out, HYG.out, HTQ.out, HAL.out])
      have e0 := cell_ext HA5.out.t.x HEL.out.1
      have e1 := cell_ext HA5.out.t.x HEL.out.2.1
      have e2 := cell_ext HA5.out.t.x HEL.out.2.2
      have el := cell_lt e0
      cases tq with
      | true =>
        have HNX := hid_mk (show nextR (bn : Int) lf mine theirs r = [] by rw [nextR, HXG.out, HYG.out, if_pos HTQ.out])
        by_cases hd0 : dn = 0
        · subst hd0
          go_wp2
          go_roundw
          case rel => exact ⟨k + 1, hlt, (by first | exact congrArg (Value.int .i64) HW.out | rfl), by rw [HTK.out, HNX.out, List.append_nil]; exact HA5.out, HHT.out HHR.out⟩
          case measure => (try simp only [HW.out]); simp [intOf]; omega
        · have hdp : (0 : Int) < (dn : Int) := by omega
          have HRN := hid_mk (HFH.out (by rw [HHR.out]; simp [hd0]))
          have hb8 := HA5.out.t.b
          have z0 : V5.cell? ⟨w.heap.size, 0, none⟩ = some (.string ⟨#[]⟩) := by simp [World.cell?, hb8]
          have z1 : V5.cell? ⟨w.heap.size, 1, none⟩ = some (.string ⟨#[]⟩) := by simp [World.cell?, hb8]
          have z2 : V5.cell? ⟨w.heap.size, 2, none⟩ = some (.bool false) := by simp [World.cell?, hb8]
          have f0 : V5.frozen? ⟨w.heap.size, 0, none⟩ = false := by simp [World.frozen?, hb8]
          have f1 : V5.frozen? ⟨w.heap.size, 1, none⟩ = false := by simp [World.frozen?, hb8]
          have f2 : V5.frozen? ⟨w.heap.size, 2, none⟩ = false := by simp [World.frozen?, hb8]
          have zl := cell_lt z0
          clear hb8
          go_wp2
          go_region
          go_wp2
          refine bodyPost_ret (v := .tuple #[.slice none 0 0, rgV r, .bool true]) (by unfold results; rw [Tryd.results23]; go_simp; first | done | rfl) rfl ⟨.slice none 0 0, by rw [HRN.out]; rfl, (fun h => (by rw [HRN.out] at h; cases h)), ?_⟩
          exact ext_set3 HA5.out.t.x (Nat.le_refl _) (by (repeat (first | exact Ext.refl _ | apply Ext.drew_left | apply Ext.drew | apply Ext.alloc)))
      | false =>
        by_cases hlf : (X.length : Int) ≤ lf
        · have hlf' : ¬ lf < (X.length : Int) := by omega
          have HNX := hid_mk (show nextR (bn : Int) lf mine theirs r = [] by rw [nextR, HXG.out, HYG.out, if_neg (by rw [HTQ.out]; simp), if_pos hlf])
          go_wp2
          go_roundw
          case rel => exact ⟨k + 1, hlt, (by first | exact congrArg (Value.int .i64) HW.out | rfl), by rw [HTK.out, HNX.out, List.append_nil]; exact HA5.out, HHT.out HHR.out⟩
          case measure => (try simp only [HW.out]); simp [intOf]; omega
        · have hlf' : lf < (X.length : Int) := by omega
          have HNX := hid_mk (show nextR (bn : Int) lf mine theirs r = rangesL r (keysL X) (min bn X.length) by rw [nextR, HXG.out, HYG.out, if_neg (by rw [HTQ.out]; simp), if_neg hlf, Int.toNat_natCast])
          have HSP := hid_mk (show SplOk r (keysL X) (min bn X.length) by rw [← HXG.out]; exact splOk HMO.out.1 HRC.out (by rw [HXG.out]; omega) (by rw [HXG.out]; omega))
          have HTL := hid_mk (HNO.out.take (br := (bn : Int)) (lf := lf) HR.out HMO.out.1 k)
          have HNL := hid_mk (next_len (br := (bn : Int)) (lf := lf) (theirs := theirs) HMO.out.1 r)
          rw [HNX.out] at HNL
          go_wp2_with fail
          have hx5 := Ext.refl V5
          have hc5 := hx5.hc; have hl5 := hx5.hl; have he5 := hx5.hle; have hn5 := hx5.hne; replace hx5 := hid_mk hx5
          refine wp_region_held_below (fun _ => true) (.quiet 0 (.quiet 1 (.quiet 2 (.quiet 3 (.quiet 4 (.quiet 6 (.quiet 7 (.quiet 8 (.quiet 9 (.alt 5 (.alt 10 (.quiet 11 (.quiet 12 (.quiet 13 (.quiet 14 (.quiet 15 .done))))) .stop) .stop)))))))))) (by kernel_rfl) (by kernel_rfl) (by intro c a w d v h; cases d <;> exact h) (fun ops HO => ?_)
          refine plan_read _ (hi_of HO rfl) rfl (fun w' hE => by have hcE := (Ext.trans _ _ _ (by (repeat (first | exact hx5.out | apply Ext.drew | apply Ext.alloc))) hE).hc; (repeat (with_reducible replace hE := Ext.unD hE)); have hcF := hE.hc; clear hE; go_simp; rfl) ?_
          simp only [Act.put, List.setIfInBounds_toArray, List.set_cons_succ, List.set_cons_zero]
          refine plan_read _ (hi_of HO rfl) rfl (fun w' hE => by have hcE := (Ext.trans _ _ _ (by (repeat (first | exact hx5.out | apply Ext.drew | apply Ext.alloc))) hE).hc; (repeat (with_reducible replace hE := Ext.unD hE)); have hcF := hE.hc; clear hE; go_simp; rfl) ?_
          simp only [Act.put, List.setIfInBounds_toArray, List.set_cons_succ, List.set_cons_zero]
          refine plan_read _ (hi_of HO rfl) rfl (fun w' hE => by have hcE := (Ext.trans _ _ _ (by (repeat (first | exact hx5.out | apply Ext.drew | apply Ext.alloc))) hE).hc; (repeat (with_reducible replace hE := Ext.unD hE)); have hcF := hE.hc; clear hE; go_simp; rfl) ?_
          simp only [Act.put, List.setIfInBounds_toArray, List.set_cons_succ, List.set_cons_zero]
          refine plan_read _ (hi_of HO rfl) rfl (fun w' hE => by have hcE := (Ext.trans _ _ _ (by (repeat (first | exact hx5.out | apply Ext.drew | apply Ext.alloc))) hE).hc; (repeat (with_reducible replace hE := Ext.unD hE)); have hcF := hE.hc; clear hE; go_simp; rfl) ?_
          simp only [Act.put, List.setIfInBounds_toArray, List.set_cons_succ, List.set_cons_zero]
          refine plan_read _ (hi_of HO rfl) rfl (fun w' hE => by have hcE := (Ext.trans _ _ _ (by (repeat (first | exact hx5.out | apply Ext.drew | apply Ext.alloc))) hE).hc; (repeat (with_reducible replace hE := Ext.unD hE)); have hcF := hE.hc; clear hE; go_simp; rfl) ?_
          simp only [Act.put, List.setIfInBounds_toArray, List.set_cons_succ, List.set_cons_zero]
          refine plan_read _ (hi_of HO rfl) rfl (fun w' hE => by have hcE := (Ext.trans _ _ _ (by (repeat (first | exact hx5.out | apply Ext.drew | apply Ext.alloc))) hE).hc; (repeat (with_reducible replace hE := Ext.unD hE)); have hcF := hE.hc; clear hE; go_simp; rfl) ?_
          simp only [Act.put, List.setIfInBounds_toArray, List.set_cons_succ, List.set_cons_zero]
          refine plan_read _ (hi_of HO rfl) rfl (fun w' hE => by have hcE := (Ext.trans _ _ _ (by (repeat (first | exact hx5.out | apply Ext.drew | apply Ext.alloc))) hE).hc; (repeat (with_reducible replace hE := Ext.unD hE)); have hcF := hE.hc; clear hE; go_simp; rfl) ?_
          simp only [Act.put, List.setIfInBounds_toArray, List.set_cons_succ, List.set_cons_zero]
          refine plan_read _ (hi_of HO rfl) rfl (fun w' hE => by have hcE := (Ext.trans _ _ _ (by (repeat (first | exact hx5.out | apply Ext.drew | apply Ext.alloc))) hE).hc; (repeat (with_reducible replace hE := Ext.unD hE)); have hcF := hE.hc; clear hE; go_simp; rfl) ?_
          simp only [Act.put, List.setIfInBounds_toArray, List.set_cons_succ, List.set_cons_zero]
          refine plan_read _ (hi_of HO rfl) rfl (fun w' hE => by have hcE := (Ext.trans _ _ _ (by (repeat (first | exact hx5.out | apply Ext.drew | apply Ext.alloc))) hE).hc; (repeat (with_reducible replace hE := Ext.unD hE)); have hcF := hE.hc; clear hE; go_simp; rfl) ?_
          simp only [Act.put, List.setIfInBounds_toArray, List.set_cons_succ, List.set_cons_zero]
          refine plan_call1 en_rKeys (hi_of HO rfl) rfl rfl (by go_simp; rfl) (by exact rKeys_any X _ (HXS.out.ext ((Ext.refl V5).drew)) (by omega)) ?_
          rintro e V6 ⟨kv, rfl, hks, hx⟩
          refine ⟨_, rfl, fun _ => hx, ?_⟩
          simp only [Act.put, List.setIfInBounds_toArray, List.set_cons_succ, List.set_cons_zero]
          have HA6 := hid_mk (HA5.out.ext (Ext.trans _ _ _ ((Ext.refl V5).drew) hx))
          replace hx5 := hid_mk (Ext.trans _ _ _ hx5.out (Ext.trans _ _ _ ((Ext.refl V5).drew) hx))
          have HKS := hid_mk hks.gsl
          obtain ⟨ka, kc, rfl⟩ := own_form hks
          clear hks hx
          refine plan_call1 en_r7Ranges (hi_of HO rfl) rfl rfl (by go_simp; rfl) (by rw [show min (bn : Int) (X.length : Int) = ((min bn X.length : Nat) : Int) by omega]; exact r7Ranges_any r (keysL X) _ (min bn X.length) HKS.out HSP.out) ?_
          rintro e V7 ⟨rv, rfl, hrs, hx⟩
          refine ⟨_, rfl, fun _ => hx, ?_⟩
          simp only [Act.put, List.setIfInBounds_toArray, List.set_cons_succ, List.set_cons_zero]
          have HA7 := hid_mk (HA6.out.ext hx)
          replace hx5 := hid_mk (Ext.trans _ _ _ hx5.out hx)
          have hgs := OwG.sl (k := 3) (by omega) (fun _ => rfl) hrs
          obtain ⟨v', w', hrun, hon, hg, hob⟩ := appendG okR (w := V7) HA7.out.o hgs (by have := HTL.out; have := HNL.out; omega) (by have := cell_lt (show V7.cell? ⟨w.heap.size, 0, none⟩ = some (.string ⟨#[]⟩) by simp [World.cell?, HA7.out.t.b]); omega)
          have HB := hid_mk (show RtAt w w' v' ((l.take (k + 1)).flatMap (nextR (bn : Int) lf mine theirs)) by rw [HTK.out, HNX.out]; exact HA7.out.app hg hon)
          obtain ⟨ra, rc, hrv⟩ := own_form hrs
          subst hrv
          clear hrs hx hgs hon hg hob
          refine plan_read _ (hi_of HO rfl) rfl (fun w' hE => by have hcE := (Ext.trans _ _ _ (by (repeat (first | exact hx5.out | apply Ext.drew | apply Ext.alloc))) hE).hc; (repeat (with_reducible replace hE := Ext.unD hE)); have hcF := hE.hc; clear hE; go_simp; rfl) ?_
          simp only [Act.put, List.setIfInBounds_toArray, List.set_cons_succ, List.set_cons_zero]
          refine plan_read _ (hi_of HO rfl) rfl (fun w' hE => by have hcE := (Ext.trans _ _ _ (by (repeat (first | exact hx5.out | apply Ext.drew | apply Ext.alloc))) hE).hc; (repeat (with_reducible replace hE := Ext.unD hE)); have hcF := hE.hc; clear hE; go_simp; rfl) ?_
          simp only [Act.put, List.setIfInBounds_toArray, List.set_cons_succ, List.set_cons_zero]
          refine plan_read _ (hi_of HO rfl) rfl (fun w' hE => by have hcE := (Ext.trans _ _ _ (by (repeat (first | exact hx5.out | apply Ext.drew | apply Ext.alloc))) hE).hc; (repeat (with_reducible replace hE := Ext.unD hE)); have hcF := hE.hc; clear hE; go_simp; rfl) ?_
          simp only [Act.put, List.setIfInBounds_toArray, List.set_cons_succ, List.set_cons_zero]
          refine plan_read _ (hi_of HO rfl) rfl (fun w' hE => by have hcE := (Ext.trans _ _ _ (by (repeat (first | exact hx5.out | apply Ext.drew | apply Ext.alloc))) hE).hc; (repeat (with_reducible replace hE := Ext.unD hE)); have hcF := hE.hc; clear hE; go_simp; rfl) ?_
          simp only [Act.put, List.setIfInBounds_toArray, List.set_cons_succ, List.set_cons_zero]
          refine plan_read _ (hi_of HO rfl) rfl (fun w' hE => by have hcE := (Ext.trans _ _ _ (by (repeat (first | exact hx5.out | apply Ext.drew | apply Ext.alloc))) hE).hc; (repeat (with_reducible replace hE := Ext.unD hE)); have hcF := hE.hc; clear hE; go_simp; rfl) ?_
          simp only [Act.put, List.setIfInBounds_toArray, List.set_cons_succ, List.set_cons_zero]
          refine plan_done ?fin101
          go_wp2
          go_roundw
          case rel => exact ⟨k + 1, hlt, (by first | exact congrArg (Value.int .i64) HW.out | rfl), HB.out, HHT.out HHR.out⟩
          case measure => (try simp only [HW.out]); simp [intOf]; omega
    · obtain rfl : k = l.length := by omega
      have hmm : ¬ ((l.length : Nat) : Int) < (l.length : Int) := by omega
      rw [List.take_length] at HA HF2
      have HRN := hid_mk (show R = none by rw [← HRES.out]; exact List.find?_eq_none.2 (fun x hx => by rw [HF2.out x hx]; simp))
      have hb8 := HA.out.t.b
      have z0 : wr.cell? ⟨w.heap.size, 0, none⟩ = some (.string ⟨#[]⟩) := by simp [World.cell?, hb8]
      have z1 : wr.cell? ⟨w.heap.size, 1, none⟩ = some (.string ⟨#[]⟩) := by simp [World.cell?, hb8]
      have z2 : wr.cell? ⟨w.heap.size, 2, none⟩ = some (.bool false) := by simp [World.cell?, hb8]
      have f0 : wr.frozen? ⟨w.heap.size, 0, none⟩ = false := by simp [World.frozen?, hb8]
      have f1 : wr.frozen? ⟨w.heap.size, 1, none⟩ = false := by simp [World.frozen?, hb8]
      have f2 : wr.frozen? ⟨w.heap.size, 2, none⟩ = false := by simp [World.frozen?, hb8]
      have zl := cell_lt z0
      clear hb8
      go_wp2
      refine bodyPost_ret (v := .tuple #[u13, rgV zRg, .bool false]) (by unfold results; rw [Tryd.results23]; go_simp; first | done | rfl) rfl ⟨u13, by rw [HRN.out]; rfl, fun _ => ?_, ?_⟩
      · refine OwG.lower (B := w.heap.size + 1) ?_ (by omega)
        exact HA.out.o.xl (L := [w.heap.size]) ((((Xl.refl wr).set (by simp)).set (by simp)).set (by simp)) (fun g e hm => by have := (World.ownsRow.lt HA.out.o g e).1; simp at hm; omega)
      · exact Xl.ext HA.out.t.x (L := [w.heap.size]) ((((Xl.refl wr).set (by simp)).set (by simp)).set (by simp)) (by simp)
end Go.Proofs.YtiimoaplhhnklaaDoor
