/- The document's ghosts: Sees. -/
import Derived.Test.YtiimoaplhhnklaaHS
namespace Go.Proofs.Ytiimoaplhhnklaa
open Go.RowKit
set_option maxHeartbeats 4000000
set_option maxRecDepth 100000
set_option linter.unusedSimpArgs false
set_option linter.unusedVariables false
attribute [local go_sem ↓] eql_entE neq_entE
attribute [-go_sem] Builtin.append_

theorem RhAt.put {B : Nat} {w : World} {rb : Nat} {rv : Value} {A : List Ent} {sv : Nat → Value} {ls : Nat → List Ent} (h : RhAt B w rb rv A sv ls) {k : Nat} (hk : k < 8) {v : Value} {l : List Ent} (hs : EntSl w v l) (ha : EAway (rfp rb rv) v) : RhAt B (w.setCell ⟨rb, 1 + k, none⟩ v) rb rv A (upd sv k v) (upd ls k l) := by
  have hx : Xl [rb] w (w.setCell ⟨rb, 1 + k, none⟩ v) := (Xl.refl w).set (by simp)
  refine ⟨?_, h.own.xl hx (fun g hg hm => h.lt.2.2 (by simp at hm; rw [hg, hm])), fun i hi => ?_, fun i hi => ?_, ⟨h.lo.1, Nat.le_trans h.lo.2 hx.size⟩⟩
  · rw [heap_setCell_same w rb (1 + k) _ _ v h.blk]
    match k, hk with
    | 0, _ | 1, _ | 2, _ | 3, _ | 4, _ | 5, _ | 6, _ | 7, _ => rfl
  · unfold upd
    split
    · exact hs.xl hx (ha.mono (by simp [rfp]))
    · exact (h.sl i hi).xl hx ((h.aw i hi).mono (by simp [rfp]))
  · unfold upd
    split
    · exact ha
    · exact h.aw i hi
theorem gen_calls' {P : Program} {f : FuncId} {args : Array Value} {w : World} {Q : Ending → World → Prop} (R : World → Prop) (h0 : R w) (h : ∀ W, R W → Calls P f args W Q) : Calls P f args w Q := h w h0
theorem seesP_take {A : List Ent} {ps : List (Ent × Ent)} {k : Nat} (h : k < ps.length) (h0 : seesP A (ps.take k) = none) : (badP A ps[k] = none → seesP A (ps.take (k + 1)) = none) ∧ (∀ r, badP A ps[k] = some r → seesP A ps = some r) := by
  constructor
  · intro hb
    rw [List.take_succ_eq_append_getElem h, seesP, List.findSome?_append, show (ps.take k).findSome? (badP A) = none from h0]
    simp [hb]
  · intro r hb
    have hsp : ps = ps.take k ++ ps[k] :: ps.drop (k + 1) := by rw [← List.drop_eq_getElem_cons h, List.take_append_drop]
    unfold seesP
    conv => lhs; rw [hsp]
    rw [List.findSome?_append, show (ps.take k).findSome? (badP A) = none from h0, Option.none_or, List.findSome?_cons, hb]
theorem rsees_any {B : Nat} {w : World} {rb : Nat} {rv : Value} {A : List Ent} {sv : Nat → Value} {ls : Nat → List Ent} (h : RhAt B w rb rv A sv ls) (hA : A.length ≤ 100000000) (htw : NoTw A) (hok : ∀ i, i < 8 → mChk (ls i) = 0 ∧ (ls i).length ≤ 100000000) (n : Int) (lv : Value) (l : List Ent) (hs : EntSl w lv l) (hl : l.length ≤ 100000000) :
    Calls Try.prog 36 #[.pointer (some ⟨rb, 0, none⟩), .int .i64 n, lv] w fun e w' => e = .returned (.tuple #[.string (seesR n l A ls).1, .int .i64 (seesR n l A ls).2]) ∧ RGPost B w rb rv sv A (seesLs n l A ls) w' := by
  have H := hid_mk h
  have HOK := hid_mk hok
  have HS := hid_mk hs
  have HLA := hid_mk (And.intro hA hl)
  have HTW := hid_mk htw
  obtain ⟨la, lc, rfl, -⟩ := hs
  clear h hok hA htw hl
  obtain ⟨b, hb⟩ : ∃ b, isNd n = b := ⟨_, rfl⟩
  have HBE := hid_mk hb
  cases b with
  | false =>
    rw [seesR, seesLs, seesO, if_pos HBE.out, if_neg (by simp)]
    have hc := of_decide_eq_false hb
    clear hb
    by_cases hneg : n < 0
    · go_enter Try.func36, Try.ntmps36
      go_wp2
      refine bodyPost_ret (v := .tuple #[.string ⟨#[]⟩, .int .i64 1]) (by unfold results; rw [Try.results36]; go_simp; first | done | rfl) rfl ⟨rfl, rgpost_ext H.out (Ext.refl _)⟩
    · have hbig : 8 ≤ n := by omega
      go_enter Try.func36, Try.ntmps36
      go_wp2
      refine bodyPost_ret (v := .tuple #[.string ⟨#[]⟩, .int .i64 1]) (by unfold results; rw [Try.results36]; go_simp; first | done | rfl) rfl ⟨rfl, rgpost_ext H.out (Ext.refl _)⟩
  | true =>
    have hnd := isNd_at hb
    clear hb
    obtain ⟨k, hk, rfl⟩ := hnd
    obtain ⟨z, hz⟩ : ∃ z, mChk l = z := ⟨_, rfl⟩
    have HZ := hid_mk hz
    have hk9 : ¬ (8 : Int) ≤ (k : Int) := by omega
    have hkn : ¬ (k : Int) < 0 := by omega
    have hk8 : (k : Int) < 8 := by omega
    have hk0 : (0 : Int) ≤ (k : Int) := by omega
    clear hz
    by_cases hz0 : z = 0
    · subst hz0
      obtain ⟨so, hso⟩ : ∃ so, seesP A (prs (ls k) l) = so := ⟨_, rfl⟩
      have HSO := hid_mk hso
      have HLK := hid_mk (HOK.out k hk)
      rw [seesR, seesLs, seesO, if_neg (by rw [HBE.out]; simp), if_neg (by rw [HZ.out]; simp), Int.toNat_natCast, hso]
      clear hso
      obtain ⟨c0, -⟩ := H.out.cs hk
      obtain ⟨a9, c9, e9, -⟩ := H.out.sl k hk
      rw [e9] at c0
      have HE9 := hid_mk e9
      have HC0 := hid_mk c0
      clear e9 c0
      go_enter Try.func36, Try.ntmps36
      go_wp2_with fail
      refine (r9Check_any l _ _ HS.out).mono ?_
      rintro e W1 ⟨rfl, hx1⟩
      rw [HZ.out]
      have c1 := cell_ext hx1 HC0.out
      have cl1 := cell_lt c1
      have HX1 := hid_mk hx1
      clear hx1
      go_wp2_with fail
      refine (r9Pairs_any (ls k) l _ _ _ (by rw [← HE9.out]; exact (H.out.sl k hk).ext HX1.out) (HS.out.ext HX1.out) HLK.out.1 HZ.out HLK.out.2 HLA.out.2).mono ?_
      rintro e W2 ⟨pv, rfl, hop, hx2⟩
      have HX2 := hid_mk (Ext.trans _ _ _ HX1.out hx2)
      have HPL := hid_mk (show (prs (ls k) l).length ≤ 200000000 by
        have := prs_len (ls k) l
        have := HLK.out.2
        have := HLA.out.2
        omega)
      obtain ⟨ps, hps⟩ : ∃ ps, prs (ls k) l = ps := ⟨_, rfl⟩
      rw [hps] at hop HPL HSO
      have HOP := hid_mk (fun (hp : 0 < ps.length) => ownP_at hop hp)
      obtain ⟨pa, pc, rfl⟩ := own_form hop
      clear hop hx2 HX1 c1 cl1 hps
      go_wp2_with fail
      go_loopw [10] (fun i wr => ∃ m : Nat, m ≤ ps.length ∧ i = .int .i64 (m : Int) ∧ seesP A (ps.take m) = none ∧ Ext W2 wr) (fun i _ => ps.length - (intOf i).toNat)
      case atStart => exact ⟨0, Nat.zero_le _, rfl, rfl, Ext.refl _⟩
      case round =>
        obtain ⟨m, hm, rfl, hf, hx⟩ := hrel
        have HF := hid_mk hf
        have HX := hid_mk hx
        clear hf hx
        by_cases hlt : m < ps.length
        · obtain ⟨g, c', e', hat⟩ := HOP.out (by omega)
          cases e'
          obtain ⟨⟨p0, p1, p2, p3, p4⟩, ⟨q0, q1, q2, q3, q4⟩⟩ := hat m hlt
          replace p0 := cell_ext HX.out p0
          replace p1 := cell_ext HX.out p1
          replace p2 := cell_ext HX.out p2
          replace p3 := cell_ext HX.out p3
          replace p4 := cell_ext HX.out p4
          replace q0 := cell_ext HX.out q0
          replace q1 := cell_ext HX.out q1
          replace q2 := cell_ext HX.out q2
          replace q3 := cell_ext HX.out q3
          replace q4 := cell_ext HX.out q4
          have hgl := cell_lt p0
          have HST := hid_mk (seesP_take hlt HF.out)
          obtain ⟨x, hxx⟩ : ∃ x, ps[m] = x := ⟨_, rfl⟩
          rw [hxx] at p0 p1 p2 p3 p4 q0 q1 q2 q3 q4 HST
          have hm1 : (m : Int) < (ps.length : Int) := by omega
          have hm0 : (0 : Int) ≤ (m : Int) := by omega
          have HW := hid_mk (show wrap64 ((m : Int) + 1) = (m : Int) + 1 from w64in (by have := HPL.out; omega))
          obtain ⟨nw, hnw⟩ : ∃ nw, newer x.1 x.2 = nw := ⟨_, rfl⟩
          have HNW := hid_mk hnw
          clear hat hxx hnw
          go_wp2_with fail
          refine gen_calls' (fun W3 => Ext wr W3 ∧ EntAt W3 wr.heap.size 0 x.1 ∧ EntAt W3 (wr.heap.size + 1) 0 x.2) ⟨by (repeat (first | exact Ext.refl _ | apply Ext.drew_left | apply Ext.drew | apply Ext.alloc)), ⟨by go_simp, by go_simp, by go_simp, by go_simp, by go_simp⟩, ⟨by go_simp, by go_simp, by go_simp, by go_simp, by go_simp⟩⟩ ?_
          rintro W3 ⟨hx3, hb1, hb2⟩
          have HX3 := hid_mk (Ext.trans _ _ _ HX.out hx3)
          have HB := hid_mk (And.intro hb1 hb2)
          obtain ⟨B1, hB1⟩ : ∃ B1, wr.heap.size = B1 := ⟨_, rfl⟩
          rw [hB1] at HB ⊢
          clear hx3 hb1 hb2 hB1 p0 p1 p2 p3 p4 q0 q1 q2 q3 q4 hgl
          refine (r3Newer_any x.1 x.2 _).mono ?_
          rintro e W4 ⟨rfl, hx4⟩
          rw [HNW.out]
          have HX4 := hid_mk (Ext.trans _ _ _ HX3.out hx4)
          obtain ⟨u0, -, -, -, -⟩ := HB.out.1.ext hx4
          obtain ⟨v0, v1, v2, v3, v4⟩ := HB.out.2.ext hx4
          have hul := cell_lt u0
          have hvl := cell_lt v0
          clear hx4
          cases nw with
          | true =>
            obtain rfl : so = some (x.1.key, 191) := HSO.out.symm.trans (HST.out.2 _ (by rw [badP, if_pos HNW.out]))
            go_wp2
            refine bodyPost_ret (v := .tuple #[.string x.1.key, .int .i64 191]) (by unfold results; rw [Try.results36]; go_simp; first | done | rfl) rfl ⟨rfl, ?_⟩
            first
              | exact rgpost_ext H.out (Ext.trans _ _ _ HX2.out HX4.out)
              | (rw [if_neg (by simp)]; exact rgpost_ext H.out (Ext.trans _ _ _ HX2.out HX4.out))
          | false =>
            go_wp2_with fail
            refine (rwritten_any (H.out.ext (Ext.trans _ _ _ HX2.out HX4.out)) x.2 HLA.out.1).mono ?_
            rintro e W5 ⟨rfl, hx5⟩
            obtain ⟨wr', hwr⟩ : ∃ wr', decide (x.2 ∈ A) = wr' := ⟨_, rfl⟩
            have HWR := hid_mk hwr
            rw [hwr]
            have HX5 := hid_mk (Ext.trans _ _ _ HX4.out hx5)
            have u5 := cell_ext hx5 v0
            have ul5 := cell_lt u5
            clear hx5 hwr u0 v0 v1 v2 v3 v4 hul hvl
            cases wr' with
            | true =>
              have HBN := hid_mk (HST.out.1 (by rw [badP, if_neg (by rw [HNW.out]; simp), if_pos ((findN_mem HTW.out x.2).2 (of_decide_eq_true HWR.out))]))
              go_wp2
              go_roundw
              case rel => exact ⟨m + 1, hlt, (by first | exact congrArg (Value.int .i64) HW.out | rfl), HBN.out, HX5.out⟩
              case measure => (try simp only [HW.out]); simp [intOf]; omega
            | false =>
              obtain rfl : so = some (x.2.key, 192) := HSO.out.symm.trans (HST.out.2 _ (by rw [badP, if_neg (by rw [HNW.out]; simp), if_neg (fun h => of_decide_eq_false HWR.out ((findN_mem HTW.out x.2).1 h))]))
              go_wp2
              refine bodyPost_ret (v := .tuple #[.string x.2.key, .int .i64 192]) (by unfold results; rw [Try.results36]; go_simp; first | done | rfl) rfl ⟨rfl, ?_⟩
              first
                | exact rgpost_ext H.out (Ext.trans _ _ _ HX2.out HX5.out)
                | (rw [if_neg (by simp)]; exact rgpost_ext H.out (Ext.trans _ _ _ HX2.out HX5.out))
        · obtain rfl : m = ps.length := by omega
          have hmm : ¬ ((ps.length : Nat) : Int) < (ps.length : Int) := by omega
          rw [List.take_length] at HF
          obtain rfl : so = none := HSO.out.symm.trans HF.out
          have HXW := hid_mk (Ext.trans _ _ _ HX2.out HX.out)
          have hx1 : Ext wr (wr.alloc (.cells #[] 31)) := by (repeat (first | exact Ext.refl _ | apply Ext.drew_left | apply Ext.drew | apply Ext.alloc))
          have hxd : Ext wr (wr.alloc (.cells #[] 31)).drew := by (repeat (first | exact Ext.refl _ | apply Ext.drew_left | apply Ext.drew | apply Ext.alloc))
          have HE0 := hid_mk (show OwEn (wr.alloc (.cells #[] 31)).drew wr.heap.size (.slice (some ⟨wr.heap.size, 0, none⟩) 0 0) [] from ownE_empty (heap_alloc_new wr _) (Nat.le_refl _))
          obtain ⟨v', w', hrun, ho, hg, -⟩ := appendE HE0.out (HS.out.ext (Ext.trans _ _ _ HXW.out hxd)) (by have := HLA.out.2; simp; omega) (by simp)
          rw [List.nil_append] at ho
          have HXF := hid_mk (show Ext wr w' from ext_grown (base := wr.heap.size) (e := 31) (size := 5) (n := 0) (xs := []) hxd hg HE0.out (Nat.le_refl _))
          have HRW := hid_mk (H.out.ext (Ext.trans _ _ _ HXW.out HXF.out))
          have HN := hid_mk (ho.new (by have := HLA.out.2; omega))
          obtain ⟨z0, z1⟩ := HRW.out.cs hk
          have zl := cell_lt z0
          have hzw := HXW.out.below.size
          have HPUT := hid_mk (HRW.out.put hk HN.out.1 (HN.out.away (fun x hx => by have := (H.out.fp_lt x hx).2; omega)))
          have HXL := hid_mk (show Xl (rfp rb rv) w (w'.setCell ⟨rb, 1 + k, none⟩ v') from (Xl.of (Ext.trans _ _ _ HXW.out HXF.out)).set (by simp [rfp]))
          have HNB := hid_mk (show ∀ b o n c, v' = .slice (some ⟨b, o, none⟩) n c → 0 < n → w.heap.size ≤ b from fun b o n c e hn => Nat.le_trans hzw (HN.out.2 b o n c e hn))
          obtain ⟨oa, oc, rfl⟩ := own_form ho
          clear ho hg hx1 hxd
          go_wp2
          go_region
          go_wp2
          refine bodyPost_ret (v := .tuple #[.string ⟨#[]⟩, .int .i64 0]) (by unfold results; rw [Try.results36]; go_simp; first | done | rfl) rfl ⟨rfl, ?_⟩
          have hfin : RGPost B w rb rv sv A (upd ls k l) (w'.setCell ⟨rb, 1 + k, none⟩ (.slice oa l.length oc)) := ⟨rv, _, HPUT.out, HXL.out, .inl rfl, fun i hi => by
            unfold upd
            split
            · exact .inr HNB.out
            · exact .inl rfl⟩
          first | exact hfin | (rw [if_pos rfl]; exact hfin)
    · rw [seesR, seesLs, seesO, if_neg (by rw [HBE.out]; simp), if_pos (by rw [HZ.out]; exact hz0), HZ.out, if_neg (by simp)]
      go_enter Try.func36, Try.ntmps36
      go_wp2_with fail
      refine (r9Check_any l _ _ HS.out).mono ?_
      rintro e W1 ⟨rfl, hx1⟩
      rw [HZ.out]
      have HX1 := hid_mk hx1
      clear hx1
      go_wp2
      refine bodyPost_ret (v := .tuple #[.string ⟨#[]⟩, .int .i64 z]) (by unfold results; rw [Try.results36]; go_simp; first | done | rfl) rfl ⟨rfl, rgpost_ext H.out HX1.out⟩
end Go.Proofs.Ytiimoaplhhnklaa
