/- Ghosts: GhostScript, walked. -/
import Derived.Test.YtiimoaplhhnklaaHY
namespace Go.Proofs.Ytiimoaplhhnklaa
open Go.RowKit
set_option maxHeartbeats 8000000
set_option maxRecDepth 100000
set_option linter.unusedSimpArgs false
set_option linter.unusedVariables false
attribute [local go_sem ↓] eql_entE neq_entE

theorem RhAt.lower {B B' : Nat} {w : World} {rb : Nat} {rv : Value} {A : List Ent} {sv : Nat → Value} {ls : Nat → List Ent} (h : RhAt B w rb rv A sv ls) (hB : B' ≤ B) : RhAt B' w rb rv A sv ls := ⟨h.blk, h.own.lower hB, h.sl, h.aw, ⟨Nat.le_trans hB h.lo.1, Nat.le_trans hB h.lo.2⟩⟩
abbrev GSt := List Ent × (Nat → List Ent)
def gnext (s : GSt) (o : GOp) : GSt := (gstepA o s.1, gstepL o s.1 s.2)
def grun (b : Bool) (N : List GOp) : GSt := (N.filter fun o => o.snd == b).foldl gnext ([], fun _ => [])
theorem grun_take {b : Bool} {N : List GOp} {m : Nat} (h : m < N.length) : grun b (N.take (m + 1)) = if N[m].snd = b then gnext (grun b (N.take m)) N[m] else grun b (N.take m) := by
  unfold grun
  rw [List.take_succ_eq_append_getElem h, List.filter_append, List.foldl_append]
  by_cases hb : N[m].snd = b
  · rw [if_pos hb, List.filter_cons, if_pos (by simpa using hb)]
    rfl
  · rw [if_neg hb, List.filter_cons, if_neg (by simpa using hb)]
    rfl
/-- What holds of a state. -/
structure GOK (m : Nat) (s : GSt) : Prop where
  tw : NoTw s.1
  ls : LsB s.2
  len : s.1.length ≤ m
theorem GOK.nil : GOK 0 (([], fun _ => []) : GSt) := ⟨fun x hx => (by cases hx), fun i hi => ⟨rfl, by simp⟩, by simp⟩
theorem GOK.next {m : Nat} {s : GSt} (h : GOK m s) (o : GOp) (hl : o.l.length ≤ 4194304) : GOK (m + 1) (gnext s o) := ⟨gstepA_tw o h.tw, gstepL_b o h.ls hl, by have := gstepA_len o s.1; have := h.len; show (gstepA o s.1).length ≤ _; omega⟩
theorem GOK.more {m m' : Nat} {s : GSt} (h : GOK m s) (hm : m ≤ m') : GOK m' s := ⟨h.tw, h.ls, Nat.le_trans h.len hm⟩
theorem grun_ok (b : Bool) (N : List GOp) (hN : ∀ x ∈ N, x.l.length ≤ 4194304) : ∀ m, m ≤ N.length → GOK m (grun b (N.take m))
  | 0, _ => by simpa [grun] using GOK.nil
  | m + 1, h => by
    have ih := grun_ok b N hN m (by omega)
    rw [grun_take h]
    split
    · exact ih.next _ (hN _ (List.getElem_mem h))
    · exact ih.more (by omega)
structure TwoG (W w : World) (ga ma : Nat) (sva : Nat → Value) (sa : GSt) (ra : Nat) (rva : Value) (sra : Nat → Value) (gb mb : Nat) (svb : Nat → Value) (sb : GSt) (rb : Nat) (rvb : Value) (srb : Nat → Value) : Prop where
  a : Gd W.heap.size w ga ma sva sa.1 sa.2 ra rva sra sa.1 sa.2
  b : Gd W.heap.size w gb mb svb sb.1 sb.2 rb rvb srb sb.1 sb.2
  ap : ∀ x ∈ fpG ga ma ra rva, x ∉ fpG gb mb rb rvb
  sab : SvAway (fpG gb mb rb rvb) sva ∧ SvAway (fpG gb mb rb rvb) sra
  sba : SvAway (fpG ga ma ra rva) svb ∧ SvAway (fpG ga ma ra rva) srb
  x : Ext W w
section
variable {W w w' : World} {ga ma : Nat} {sva : Nat → Value} {sa sa' : GSt} {ra : Nat} {rva : Value} {sra : Nat → Value} {gb mb : Nat} {svb : Nat → Value} {sb : GSt} {rb : Nat} {rvb : Value} {srb : Nat → Value}
theorem TwoG.sym (h : TwoG W w ga ma sva sa ra rva sra gb mb svb sb rb rvb srb) : TwoG W w gb mb svb sb rb rvb srb ga ma sva sa ra rva sra := ⟨h.b, h.a, fun x hx hy => h.ap x hy hx, h.sba, h.sab, h.x⟩
theorem TwoG.ext (h : TwoG W w ga ma sva sa ra rva sra gb mb svb sb rb rvb srb) (hx : Ext w w') : TwoG W w' ga ma sva sa ra rva sra gb mb svb sb rb rvb srb := ⟨h.a.ext hx, h.b.ext hx, h.ap, h.sab, h.sba, Ext.trans _ _ _ h.x hx⟩
theorem TwoG.step (h : TwoG W w ga ma sva sa ra rva sra gb mb svb sb rb rvb srb) (hp : GdPost W.heap.size w ga ma sva ra rva sra sa'.1 sa'.2 sa'.1 sa'.2 w') : ∃ sva' rva' sra', TwoG W w' ga ma sva' sa' ra rva' sra' gb mb svb sb rb rvb srb := by
  obtain ⟨sva', rva', sra', g, hx, f, v, r⟩ := hp
  have hf : ∀ x ∈ fpG ga ma ra rva', x ∈ fpG ga ma ra rva ∨ w.heap.size ≤ x := fun x hx => by
    rcases List.mem_append.1 hx with hx | hx
    · exact .inl (List.mem_append_left _ hx)
    · exact (f x hx).imp (fun h => List.mem_append_right _ h) id
  have hlb := fun x hx => (h.b.fp_lt x hx).2
  exact ⟨sva', rva', sra', g, h.b.away hx (fun x hx hm => h.ap x hm hx) h.sba.1 h.sba.2, fun x hx hy => (hf x hx).elim (fun e => h.ap x e hy) (fun e => by have := hlb x hy; omega),
    ⟨v.away h.sab.1 hlb, r.away h.sab.2 hlb⟩, ⟨sv_more h.b.g.sl h.sba.1 hf, sv_more h.b.d.sl h.sba.2 hf⟩, Xl.ext h.x hx (fun x hx => (h.a.fp_lt x hx).1)⟩
end
theorem ghostScript_walk (N : List GOp) (v0 : Value) (W : World) (hN : GOpsSl W v0 N) :
    Calls Try.prog 3 #[v0] W fun e w' => e = .returned (.bool true) ∧ Ext W w' := by
  have HN := hid_mk hN
  obtain ⟨na, nc, rfl, hnc, hnl, hn⟩ := hN
  have HC := hid_mk hn
  clear hn
  go_enter Try.func3, Try.ntmps3
  go_wp2_with fail
  refine (ghBeyond_any _ N HN.out).mono ?_
  rintro e W1 ⟨r, rfl, hr, hx1⟩
  have HX1 := hid_mk hx1
  clear hx1
  cases r with
  | true =>
    go_wp2
    go_ret
    exact ⟨rfl, HX1.out⟩
  | false =>
    have HBB := hid_mk (hr rfl)
    clear hr
    go_wp2_with fail
    refine (gnew_any _).mono ?_
    rintro e W2 ⟨ga, ma, rfl, hg1, hg2, hga, hx2⟩
    have HA2 := hid_mk (And.intro hga (And.intro hg1 hg2))
    have HX2 := hid_mk hx2
    clear hga hg1 hg2 hx2
    go_wp2_with fail
    refine (gnew_any _).mono ?_
    rintro e W3 ⟨gb, mb, rfl, hg1, hg2, hgb, hx3⟩
    have HA3 := hid_mk (And.intro hgb (And.intro hg1 hg2))
    have HX3 := hid_mk hx3
    clear hgb hg1 hg2 hx3
    go_wp2_with fail
    refine (rgnew_any _).mono ?_
    rintro e W4 ⟨ra, rfl, hg1, hra, hx4⟩
    have HA4 := hid_mk (And.intro hra hg1)
    have HX4 := hid_mk hx4
    clear hra hg1 hx4
    go_wp2_with fail
    refine (rgnew_any _).mono ?_
    rintro e W5 ⟨rb, rfl, hg1, hrb, hx5⟩
    have hz1 := HX1.out.below.size
    have hz2 := HX2.out.below.size
    have hz3 := HX3.out.below.size
    have hz4 := HX4.out.below.size
    have hl2 := HA2.out.1.lt
    have hl3 := HA3.out.1.lt
    have hl4 := HA4.out.1.lt.1
    have hb2 := HA2.out.2
    have hb3 := HA3.out.2
    have hb4 := HA4.out.2
    have triv : ∀ L, SvAway L (fun _ => .slice none 0 0) := fun L i hi b o n c e => by cases e
    have hT : TwoG W W5 ga ma (fun _ => .slice none 0 0) ([], fun _ => []) ra (.slice none 0 0) (fun _ => .slice none 0 0) gb mb (fun _ => .slice none 0 0) ([], fun _ => []) rb (.slice none 0 0) (fun _ => .slice none 0 0) :=
      ⟨⟨HA2.out.1.ext (Ext.trans _ _ _ (Ext.trans _ _ _ HX3.out HX4.out) hx5), (HA4.out.1.ext hx5).lower (by omega), by simp [rfp, Value.ownBlock]; omega, triv _, triv _, by omega, by omega⟩,
       ⟨HA3.out.1.ext (Ext.trans _ _ _ HX4.out hx5), hrb.lower (by omega), by simp [rfp, Value.ownBlock]; omega, triv _, triv _, by omega, by omega⟩,
       by simp [fpG, rfp, Value.ownBlock]; omega, ⟨triv _, triv _⟩, ⟨triv _, triv _⟩, Ext.trans _ _ _ (Ext.trans _ _ _ HX1.out HX2.out) (Ext.trans _ _ _ HX3.out (Ext.trans _ _ _ HX4.out hx5))⟩
    have HT := hid_mk hT
    clear hT hx5 hrb hg1 hz1 hz2 hz3 hz4 hl2 hl3 hl4 hb2 hb3 hb4 triv HA2 HA3 HA4 HX2 HX3 HX4
    go_wp2_with fail
    go_loopw [7] (fun i wr => ∃ m : Nat, m ≤ N.length ∧ i = .int .i64 (m : Int) ∧ ∃ sva rva sra svb rvb srb, TwoG W wr ga ma sva (grun false (N.take m)) ra rva sra gb mb svb (grun true (N.take m)) rb rvb srb) (fun i _ => N.length - (intOf i).toNat)
    case atStart => exact ⟨0, Nat.zero_le _, rfl, _, _, _, _, _, _, HT.out⟩
    case round =>
      clear HT
      obtain ⟨m, hm, rfl, sva, rva, sra, svb, rvb, srb, ht⟩ := hrel
      have HT := hid_mk ht
      clear ht
      by_cases hlt : m < N.length
      · obtain ⟨nb, no, rfl, hcl⟩ := HC.out (by omega)
        have HG := hid_mk ((hcl m hlt).ext HT.out.x)
        have HOL := hid_mk ((hcl m hlt).sl.old)
        have HLY := hid_mk (HBB.out.2 N[m] (List.getElem_mem hlt))
        have HSA := hid_mk (grun_take (b := false) hlt)
        have HSB := hid_mk (grun_take (b := true) hlt)
        have HOKA := hid_mk (grun_ok false N HBB.out.2 m hm)
        have HOKB := hid_mk (grun_ok true N HBB.out.2 m hm)
        obtain ⟨y, hy⟩ : ∃ y, N[m] = y := ⟨_, rfl⟩
        rw [hy] at HG HOL HLY HSA HSB
        obtain ⟨sA, hsA⟩ : ∃ sA, grun false (N.take m) = sA := ⟨_, rfl⟩
        obtain ⟨sB, hsB⟩ : ∃ sB, grun true (N.take m) = sB := ⟨_, rfl⟩
        rw [hsA] at HT HSA HOKA
        rw [hsB] at HT HSB HOKB
        obtain ⟨a0, a1, a2, a3, a4, a5, a6, a7, a8, -⟩ := HG.out
        have hnl2 := cell_lt a0
        have hm1 : (m : Int) < (N.length : Int) := by omega
        have hm0 : (0 : Int) ≤ (m : Int) := by omega
        have HW := hid_mk (show wrap64 ((m : Int) + 1) = (m : Int) + 1 from w64in (by have := HBB.out.1; omega))
        obtain ⟨sla, slc, esl, -⟩ := HG.out.sl
        clear hy hcl hsA hsB
        obtain ⟨k, nd, x, lv, l, snd⟩ := y
        dsimp only at a0 a1 a2 a3 a4 a5 a6 a7 a8 esl HLY HOL HSA HSB
        subst esl
        rcases snd with _ | _
        · rw [if_pos rfl] at HSA
          rw [if_neg (by decide)] at HSB
          have HOKX := HOKA
          go_wp2_with fail
          refine (gstep_any HT.out.a HOKX.out.tw HOKX.out.ls (by have := HOKX.out.len; have := HBB.out.1; omega) ⟨k, nd, x, .slice sla l.length slc, l, false⟩ HG.out.sl HLY.out HOL.out).mono ?_
          rintro e w5 ⟨rfl, hp5⟩
          obtain ⟨sv', rv', sr', ht5⟩ := TwoG.step (sa' := gnext sA ⟨k, nd, x, .slice sla l.length slc, l, false⟩) HT.out hp5
          have HT5 := hid_mk ht5
          clear hp5 ht5
          go_wp2
          go_roundw
          case rel => exact ⟨m + 1, hlt, (by first | exact congrArg (Value.int .i64) HW.out | rfl), sv', rv', sr', svb, rvb, srb, by rw [HSA.out, HSB.out]; exact HT5.out⟩
          case measure => (try simp only [HW.out]); simp [intOf]; omega
        · rw [if_neg (by decide)] at HSA
          rw [if_pos rfl] at HSB
          have HOKX := HOKB
          go_wp2_with fail
          refine (gstep_any HT.out.sym.a HOKX.out.tw HOKX.out.ls (by have := HOKX.out.len; have := HBB.out.1; omega) ⟨k, nd, x, .slice sla l.length slc, l, true⟩ HG.out.sl HLY.out HOL.out).mono ?_
          rintro e w5 ⟨rfl, hp5⟩
          obtain ⟨sv', rv', sr', ht5⟩ := TwoG.step (sa' := gnext sB ⟨k, nd, x, .slice sla l.length slc, l, true⟩) HT.out.sym hp5
          have HT5 := hid_mk ht5
          clear hp5 ht5
          go_wp2
          go_roundw
          case rel => exact ⟨m + 1, hlt, (by first | exact congrArg (Value.int .i64) HW.out | rfl), sva, rva, sra, sv', rv', sr', by rw [HSA.out, HSB.out]; exact HT5.out.sym⟩
          case measure => (try simp only [HW.out]); simp [intOf]; omega
      · obtain rfl : m = N.length := by omega
        rw [List.take_length] at HT
        have HOKA := hid_mk (grun_ok false N HBB.out.2 N.length (Nat.le_refl _))
        have HOKB := hid_mk (grun_ok true N HBB.out.2 N.length (Nat.le_refl _))
        rw [List.take_length] at HOKA HOKB
        have hmm : ¬ ((N.length : Nat) : Int) < (N.length : Int) := by omega
        obtain ⟨sA, hsA⟩ : ∃ sA, grun false N = sA := ⟨_, rfl⟩
        obtain ⟨sB, hsB⟩ : ∃ sB, grun true N = sB := ⟨_, rfl⟩
        rw [hsA] at HT HOKA
        rw [hsB] at HT HOKB
        have HLA := hid_mk (show ∀ i, i < 8 → (sA.2 i).length ≤ 1000000000 from fun i hi => Nat.le_trans (HOKA.out.ls i hi).2 (by omega))
        have HLB := hid_mk (show ∀ i, i < 8 → (sB.2 i).length ≤ 1000000000 from fun i hi => Nat.le_trans (HOKB.out.ls i hi).2 (by omega))
        clear hsA hsB hlt hm
        obtain ⟨wm, hwm⟩ : ∃ wm, wm = wr := ⟨_, rfl⟩
        subst hwm
        go_wp2_with fail
        go_loopw [9] (fun i wr => ∃ j : Int, i = .int .i64 j ∧ -1 ≤ j ∧ j ≤ 9 ∧ Ext wm wr) (fun i _ => (9 - intOf i).toNat)
        case atStart => exact ⟨-1, rfl, by omega, by omega, Ext.refl _⟩
        case round =>
          obtain ⟨j, rfl, hj1, hj2, hx⟩ := hrel
          have HX := hid_mk hx
          clear hx
          by_cases hj : j ≤ 8
          · have HW := hid_mk (show wrap64 (j + 1) = j + 1 from w64in (by omega))
            go_wp2_with fail
            refine (gheld_any (HT.out.a.ext HX.out).g j (fun i hi => Nat.le_trans (HLA.out i hi) (by omega))).mono ?_
            rintro e w1 ⟨v1, rfl, hn1, -, hx1⟩
            have HN1 := hid_mk hn1
            have HX1' := hid_mk (Ext.trans _ _ _ HX.out hx1)
            clear hn1 hx1
            go_wp2_with fail
            refine (rheld_any (HT.out.a.ext HX1'.out).d j HLA.out).mono ?_
            rintro e w2 ⟨v2, rfl, hn2, hx2⟩
            have HN1' := hid_mk (HN1.out.1.ext hx2)
            have HN2 := hid_mk hn2.1
            have HX2 := hid_mk (Ext.trans _ _ _ HX1'.out hx2)
            clear hn2 hx2 HN1
            go_wp2_with fail
            refine (ghSame_any _ _ (heldL j sA.2) (heldL j sA.2) HN1'.out HN2.out).mono ?_
            rintro e w3 ⟨rfl, hx3⟩
            rw [decide_eq_true (rfl : heldL j sA.2 = heldL j sA.2)]
            have HX3 := hid_mk (Ext.trans _ _ _ HX2.out hx3)
            clear hx3 HN1' HN2
            go_wp2_with fail
            refine (gheld_any (HT.out.b.ext HX3.out).g j (fun i hi => Nat.le_trans (HLB.out i hi) (by omega))).mono ?_
            rintro e w4 ⟨v4, rfl, hn4, -, hx4⟩
            have HN4 := hid_mk hn4
            have HX4 := hid_mk (Ext.trans _ _ _ HX3.out hx4)
            clear hn4 hx4
            go_wp2_with fail
            refine (rheld_any (HT.out.b.ext HX4.out).d j HLB.out).mono ?_
            rintro e w5 ⟨v5, rfl, hn5, hx5⟩
            have HN4' := hid_mk (HN4.out.1.ext hx5)
            have HN5 := hid_mk hn5.1
            have HX5 := hid_mk (Ext.trans _ _ _ HX4.out hx5)
            clear hn5 hx5 HN4
            go_wp2_with fail
            refine (ghSame_any _ _ (heldL j sB.2) (heldL j sB.2) HN4'.out HN5.out).mono ?_
            rintro e w6 ⟨rfl, hx6⟩
            rw [decide_eq_true (rfl : heldL j sB.2 = heldL j sB.2)]
            have HX6 := hid_mk (Ext.trans _ _ _ HX5.out hx6)
            clear hx6 HN4' HN5
            go_wp2
            go_roundw
            case rel => exact ⟨j + 1, (by first | exact congrArg (Value.int .i64) HW.out | rfl), by omega, by omega, HX6.out⟩
            case measure => (try simp only [HW.out]); simp [intOf]; omega
          · go_wp2
            go_ret
            exact ⟨rfl, Ext.trans _ _ _ HT.out.x HX.out⟩
end Go.Proofs.Ytiimoaplhhnklaa
