/- Rows put in another order: the walk of TreeTurned. -/
import Derived.Test.YtgglbohcnlcagaaUB
import Derived.Test.YtgglbohcnlcagaaTN
namespace Go.Proofs.Ytgglbohcnlcagaa
open Go.RowKit
set_option maxHeartbeats 2000000
set_option maxRecDepth 100000
set_option linter.unusedSimpArgs false
set_option linter.unusedVariables false
theorem en_TreeTurned : Enters Try.prog 7 := ⟨_, Try.func7, by kernel_rfl, rfl⟩
attribute [-go_sem] Builtin.append_
attribute [local go_sem ↓] neq_map_same

/-- A row in a variable of the call's own. -/
structure Row4 (w : World) (b : Nat) (r : R1) : Prop where
  c0 : w.cell? ⟨b, 0, none⟩ = some (.string r.1)
  c1 : w.cell? ⟨b, 1, none⟩ = some (.int .i64 r.2.1)
  c2 : w.cell? ⟨b, 2, none⟩ = some (.int .u64 r.2.2.1)
  c3 : w.cell? ⟨b, 3, none⟩ = some (.int .u64 r.2.2.2)
theorem Row4.ext {w w' : World} {b : Nat} {r : R1} (h : Row4 w b r) (hx : Ext w w') : Row4 w' b r := ⟨cell_ext hx h.c0, cell_ext hx h.c1, cell_ext hx h.c2, cell_ext hx h.c3⟩
theorem treeTurned_walk (L : List R1) (P : List Int) (v0 v1 : Value) (W : World) (hL : RowsSl W v0 L) (hr : ∀ r ∈ L, InM r.2.2) (hP : IntsSl W v1 P) :
    Calls Try.prog 7 #[v0, v1] W fun e w' => e = .returned (.bool true) ∧ Ext W w' := by
  have hlen : L.length ≤ 4398046511104 := by obtain ⟨a, c, -, -, h, -⟩ := hL; exact h
  have hg : Good (puts L .nil) := good_puts L .nil good_nil hr (by simp only [Tr.size]; omega)
  have HL := hid_mk hL
  have HP := hid_mk hP
  have HR := hid_mk hr
  have HG := hid_mk hg
  obtain ⟨a, c, rfl, hlc, -, hcells⟩ := hL
  have HC := hid_mk hcells
  have HLC := hid_mk hlc
  clear hr hP hg hcells hlc
  go_enter Try.func7, Try.ntmps7
  go_wp2_with fail
  refine (shown_any _).mono ?_
  rintro e w1 ⟨rfl, hx1⟩
  have HX := hid_mk hx1
  clear hx1
  by_cases hbig : (512 : Int) < (L.length : Int)
  · go_wp2
    go_ret
    exact ⟨rfl, HX.out⟩
  · have HBIG := hid_mk hbig
    have hl512 : L.length ≤ 512 := by omega
    have HL5 := hid_mk hl512
    clear hl512 hlen
    go_wp2_with fail
    refine (grown_any L _ _ (HL.out.ext HX.out)).mono ?_
    rintro e w2 ⟨ta, rfl, hb, hT, hx2⟩
    have HTA := hid_mk hT
    replace HX := hid_mk (Ext.trans _ _ _ HX.out hx2)
    clear hT hx2 hb
    clear hbig
    go_wp2_with fail
    go_loopw [6, 32] (fun v x wr => ∃ m : Nat, m ≤ L.length ∧ x = .int .i64 (m : Int) ∧ ∃ M : List R1, OwnR wr w2.heap.size v M ∧ M ++ lastOf (L.drop m) = lastOf L ∧ Ext w2 wr) (fun _ x _ => L.length - (intOf x).toNat)
    case atStart => exact ⟨0, Nat.zero_le _, rfl, [], ⟨rfl, .inl ⟨rfl, rfl⟩⟩, by simp, Ext.refl _⟩
    case round =>
      obtain ⟨m, hm, rfl, M, ho, hM, hx⟩ := hrel
      have HO := hid_mk ho
      have HM := hid_mk hM
      have HXR := hid_mk hx
      obtain ⟨pa, cm, rfl⟩ := own_form ho
      clear ho hM hx
      by_cases hlt : m < L.length
      · obtain ⟨b, o, rfl, hrows⟩ := HC.out (by omega)
        have HRW := hid_mk hrows
        clear hrows
        obtain ⟨r0, r1, r2, r3⟩ := (HRW.out.xt (Xt.of (Ext.trans _ _ _ HX.out HXR.out) : Xt none _ _) (by simp)) m hlt
        have hbl := cell_lt r0
        have hm63 : (m : Int) < (L.length : Int) := by omega
        have hm0 : (0 : Int) ≤ (m : Int) := by omega
        have hw1 : wrap64 ((m : Int) + 1) = (m : Int) + 1 := w64in (by have := HL5.out; omega)
        have hm1 : (m : Int) + 1 ≤ (L.length : Int) := by omega
        have hm2 : (0 : Int) ≤ (m : Int) + 1 := by omega
        have hm3 : (L.length : Int) ≤ (c : Int) := by have := HLC.out; omega
        go_wp2_with fail
        case inl =>
          subst h
          have HD := hid_mk (show RowsAt wr b (o) (L.drop (m + 1)) by
            intro q hq
            have hq' : m + 1 + q < L.length := by rw [List.length_drop] at hq; omega
            have h := (HRW.out.xt (Xt.of (Ext.trans _ _ _ HX.out HXR.out) : Xt none _ _) (by simp)) (m + 1 + q) hq'
            have e : o + q * 4 = o + (m + 1 + q) * 4 := by omega
            rw [e]
            simpa using h)
          refine gen_code (fun Wb => Row4 Wb wr.heap.size L[m] ∧ Ext wr Wb) ⟨⟨by go_simp, by go_simp, by go_simp, by go_simp⟩, by (repeat (first | exact Ext.refl _ | apply Ext.drew_left | apply Ext.drew | apply Ext.alloc | (refine Ext.setX ?_ (by simp))))⟩ ?_
          rintro Wb ⟨hrow, hxb⟩
          have HROW := hid_mk hrow
          have HXB := hid_mk hxb
          have HST := hid_mk (lastOf_step hlt)
          have hnd : (L.drop (m + 1)).length = L.length - (m + 1) := List.length_drop
          generalize hD : L.drop (m + 1) = D at *
          generalize hr0 : L[m] = r at *
          generalize hnn : L.length - (m + 1) = nd at *
          have HND := hid_mk hnd
          have HDD := hid_mk hD
          have HNN := hid_mk (show nd ≤ 512 by have := HL5.out; omega)
          clear r0 r1 r2 r3 hbl hrow hxb hnd hD hr0 hm1 hm2 hm3
          go_loopw [9, 42] (fun g x wi => ∃ q : Nat, q ≤ nd ∧ x = .int .i64 (q : Int) ∧ g = .bool (laterKey r.1 (D.take q)) ∧ Ext Wb wi) (fun _ x _ => nd - (intOf x).toNat)
          case atStart => exact ⟨0, Nat.zero_le _, rfl, rfl, Ext.refl _⟩
          case round =>
            obtain ⟨q, hq, rfl, rfl, hxi⟩ := hrel
            have HXI := hid_mk hxi
            clear hxi
            by_cases hql : q < nd
            · obtain ⟨d0, d1, d2, d3⟩ := (HD.out.xt (Xt.of (Ext.trans _ _ _ HXB.out HXI.out) : Xt none _ _) (by simp)) q (by rw [HND.out]; exact hql)
              have hdl := cell_lt d0
              obtain ⟨x0, x1, x2, x3⟩ := HROW.out.ext HXI.out
              have hxl := cell_lt x0
              have HLS := hid_mk (later_step (k := r.1) (show q < D.length by rw [HND.out]; exact hql))
              generalize hdr : D[q]'(by rw [HND.out]; exact hql) = d at *
              generalize hlk : laterKey r.1 (D.take q) = lk at *
              have hql1 : (q : Int) < (nd : Int) := by omega
              have hq0 : (0 : Int) ≤ (q : Int) := by omega
              have hw2 : wrap64 ((q : Int) + 1) = (q : Int) + 1 := w64in (by have := HNN.out; omega)
              clear hlk hdr
              cases lk with
              | true =>
                go_wp2
                go_roundw
                case rel => exact ⟨q + 1, Nat.succ_le_of_lt hql, (by first | exact congrArg (Value.int .i64) hw2 | rfl), by rw [HLS.out]; rfl, Ext.trans _ _ _ HXI.out (by (repeat (first | exact Ext.refl _ | apply Ext.drew_left | apply Ext.drew | apply Ext.alloc | (refine Ext.setX ?_ (by simp)))))⟩
                case measure => (try simp only [hw2]); clear hw2 hw1; simp [intOf]; omega
              | false =>
                go_wp2
                go_roundw
                case rel => exact ⟨q + 1, Nat.succ_le_of_lt hql, (by first | exact congrArg (Value.int .i64) hw2 | rfl), by rw [HLS.out]; rfl, Ext.trans _ _ _ HXI.out (by (repeat (first | exact Ext.refl _ | apply Ext.drew_left | apply Ext.drew | apply Ext.alloc | (refine Ext.setX ?_ (by simp)))))⟩
                case measure => (try simp only [hw2]); clear hw2 hw1; simp [intOf]; omega
            · obtain rfl : q = nd := by omega
              rw [List.take_of_length_le (by rw [HND.out]; exact Nat.le_refl _)]
              obtain ⟨x0, x1, x2, x3⟩ := HROW.out.ext HXI.out
              have hxl := cell_lt x0
              have HXS := hid_mk (Ext.trans _ _ _ HXB.out HXI.out)
              have HOI := hid_mk (own_ext HO.out HXS.out)
              have HX2 := hid_mk (Ext.trans _ _ _ HXR.out HXS.out)
              have hqq : ¬ (q : Int) < (q : Int) := by omega
              by_cases hk : laterKey r.1 D = true
              · rw [hk]
                go_wp2
                go_roundw
                case rel => exact ⟨m + 1, Nat.succ_le_of_lt hlt, (by first | exact congrArg (Value.int .i64) hw1 | rfl), M, HOI.out, by rw [← HM.out, HST.out, if_pos hk, HDD.out], HX2.out⟩
                case measure => (try simp only [hw1]); clear hw1; simp [intOf]; omega
              · have hk' : laterKey r.1 D = false := by simpa using hk
                rw [hk']
                have hml : M.length + 1 ≤ 3000000000000 := by
                  have h1 := congrArg List.length HM.out
                  rw [List.length_append] at h1
                  have h2 := lastOf_len L
                  have := HL5.out
                  omega
                obtain ⟨va, wa, hrun, hoa, hga⟩ := appendR_one (w := wr.alloc (.cells #[.string r.1, .int .i64 r.2.1, .int .u64 r.2.2.1, .int .u64 r.2.2.2] 75)) (own_ext HOI.out ((Ext.refl wr).alloc _)) (b := wr.heap.size) (c := 1) (r := r) (by intro j u hu; rcases j with _ | _ | _ | _ | j <;> simp [cR] at hu <;> subst hu <;> go_simp) hml (by have := HX2.out.below.size; simp; omega)
                have HOA := hid_mk hoa
                have HXA := hid_mk (ext_grown (HX2.out.alloc _) hga (own_ext HOI.out ((Ext.refl wr).alloc _)) (Nat.le_refl _))
                clear hoa hga hml
                go_wp2
                go_roundw
                case rel => exact ⟨m + 1, Nat.succ_le_of_lt hlt, (by first | exact congrArg (Value.int .i64) hw1 | rfl), M ++ [r], HOA.out, by rw [← HM.out, HST.out, if_neg hk, List.append_assoc, HDD.out]; rfl, HXA.out⟩
                case measure => (try simp only [hw1]); clear hw1; simp [intOf]; omega
        case inr =>
          have HD := hid_mk (show RowsAt wr b (o + (m + 1) * 4) (L.drop (m + 1)) by
            intro q hq
            have hq' : m + 1 + q < L.length := by rw [List.length_drop] at hq; omega
            have h := (HRW.out.xt (Xt.of (Ext.trans _ _ _ HX.out HXR.out) : Xt none _ _) (by simp)) (m + 1 + q) hq'
            have e : o + (m + 1) * 4 + q * 4 = o + (m + 1 + q) * 4 := by omega
            rw [e]
            simpa using h)
          refine gen_code (fun Wb => Row4 Wb wr.heap.size L[m] ∧ Ext wr Wb) ⟨⟨by go_simp, by go_simp, by go_simp, by go_simp⟩, by (repeat (first | exact Ext.refl _ | apply Ext.drew_left | apply Ext.drew | apply Ext.alloc | (refine Ext.setX ?_ (by simp))))⟩ ?_
          rintro Wb ⟨hrow, hxb⟩
          have HROW := hid_mk hrow
          have HXB := hid_mk hxb
          have HST := hid_mk (lastOf_step hlt)
          have hnd : (L.drop (m + 1)).length = L.length - (m + 1) := List.length_drop
          generalize hD : L.drop (m + 1) = D at *
          generalize hr0 : L[m] = r at *
          generalize hnn : L.length - (m + 1) = nd at *
          have HND := hid_mk hnd
          have HDD := hid_mk hD
          have HNN := hid_mk (show nd ≤ 512 by have := HL5.out; omega)
          clear r0 r1 r2 r3 hbl hrow hxb hnd hD hr0 hm1 hm2 hm3
          go_loopw [9, 42] (fun g x wi => ∃ q : Nat, q ≤ nd ∧ x = .int .i64 (q : Int) ∧ g = .bool (laterKey r.1 (D.take q)) ∧ Ext Wb wi) (fun _ x _ => nd - (intOf x).toNat)
          case atStart => exact ⟨0, Nat.zero_le _, rfl, rfl, Ext.refl _⟩
          case round =>
            obtain ⟨q, hq, rfl, rfl, hxi⟩ := hrel
            have HXI := hid_mk hxi
            clear hxi
            by_cases hql : q < nd
            · obtain ⟨d0, d1, d2, d3⟩ := (HD.out.xt (Xt.of (Ext.trans _ _ _ HXB.out HXI.out) : Xt none _ _) (by simp)) q (by rw [HND.out]; exact hql)
              have hdl := cell_lt d0
              obtain ⟨x0, x1, x2, x3⟩ := HROW.out.ext HXI.out
              have hxl := cell_lt x0
              have HLS := hid_mk (later_step (k := r.1) (show q < D.length by rw [HND.out]; exact hql))
              generalize hdr : D[q]'(by rw [HND.out]; exact hql) = d at *
              generalize hlk : laterKey r.1 (D.take q) = lk at *
              have hql1 : (q : Int) < (nd : Int) := by omega
              have hq0 : (0 : Int) ≤ (q : Int) := by omega
              have hw2 : wrap64 ((q : Int) + 1) = (q : Int) + 1 := w64in (by have := HNN.out; omega)
              clear hlk hdr
              cases lk with
              | true =>
                go_wp2
                go_roundw
                case rel => exact ⟨q + 1, Nat.succ_le_of_lt hql, (by first | exact congrArg (Value.int .i64) hw2 | rfl), by rw [HLS.out]; rfl, Ext.trans _ _ _ HXI.out (by (repeat (first | exact Ext.refl _ | apply Ext.drew_left | apply Ext.drew | apply Ext.alloc | (refine Ext.setX ?_ (by simp)))))⟩
                case measure => (try simp only [hw2]); clear hw2 hw1; simp [intOf]; omega
              | false =>
                go_wp2
                go_roundw
                case rel => exact ⟨q + 1, Nat.succ_le_of_lt hql, (by first | exact congrArg (Value.int .i64) hw2 | rfl), by rw [HLS.out]; rfl, Ext.trans _ _ _ HXI.out (by (repeat (first | exact Ext.refl _ | apply Ext.drew_left | apply Ext.drew | apply Ext.alloc | (refine Ext.setX ?_ (by simp)))))⟩
                case measure => (try simp only [hw2]); clear hw2 hw1; simp [intOf]; omega
            · obtain rfl : q = nd := by omega
              rw [List.take_of_length_le (by rw [HND.out]; exact Nat.le_refl _)]
              obtain ⟨x0, x1, x2, x3⟩ := HROW.out.ext HXI.out
              have hxl := cell_lt x0
              have HXS := hid_mk (Ext.trans _ _ _ HXB.out HXI.out)
              have HOI := hid_mk (own_ext HO.out HXS.out)
              have HX2 := hid_mk (Ext.trans _ _ _ HXR.out HXS.out)
              have hqq : ¬ (q : Int) < (q : Int) := by omega
              by_cases hk : laterKey r.1 D = true
              · rw [hk]
                go_wp2
                go_roundw
                case rel => exact ⟨m + 1, Nat.succ_le_of_lt hlt, (by first | exact congrArg (Value.int .i64) hw1 | rfl), M, HOI.out, by rw [← HM.out, HST.out, if_pos hk, HDD.out], HX2.out⟩
                case measure => (try simp only [hw1]); clear hw1; simp [intOf]; omega
              · have hk' : laterKey r.1 D = false := by simpa using hk
                rw [hk']
                have hml : M.length + 1 ≤ 3000000000000 := by
                  have h1 := congrArg List.length HM.out
                  rw [List.length_append] at h1
                  have h2 := lastOf_len L
                  have := HL5.out
                  omega
                obtain ⟨va, wa, hrun, hoa, hga⟩ := appendR_one (w := wr.alloc (.cells #[.string r.1, .int .i64 r.2.1, .int .u64 r.2.2.1, .int .u64 r.2.2.2] 75)) (own_ext HOI.out ((Ext.refl wr).alloc _)) (b := wr.heap.size) (c := 1) (r := r) (by intro j u hu; rcases j with _ | _ | _ | _ | j <;> simp [cR] at hu <;> subst hu <;> go_simp) hml (by have := HX2.out.below.size; simp; omega)
                have HOA := hid_mk hoa
                have HXA := hid_mk (ext_grown (HX2.out.alloc _) hga (own_ext HOI.out ((Ext.refl wr).alloc _)) (Nat.le_refl _))
                clear hoa hga hml
                go_wp2
                go_roundw
                case rel => exact ⟨m + 1, Nat.succ_le_of_lt hlt, (by first | exact congrArg (Value.int .i64) hw1 | rfl), M ++ [r], HOA.out, by rw [← HM.out, HST.out, if_neg hk, List.append_assoc, HDD.out]; rfl, HXA.out⟩
                case measure => (try simp only [hw1]); clear hw1; simp [intOf]; omega
      · obtain rfl : m = L.length := by omega
        have hML : M = lastOf L := by
          have := HM.out
          rw [List.drop_eq_nil_of_le (Nat.le_refl _)] at this
          simpa [lastOf] using this
        have HML := hid_mk hML
        have HM5 := hid_mk (show M.length ≤ 512 by have := lastOf_len L; have := HL5.out; rw [hML]; omega)
        obtain ⟨gg, hgg⟩ : ∃ gg, 0 < M.length → pa = some ⟨gg, 0, none⟩ ∧ w2.heap.size ≤ gg ∧ gg < wr.heap.size ∧ M.length ≤ cm ∧ MineAt wr gg M := by
          by_cases hp : 0 < M.length
          · obtain ⟨gg, cc, ee, h1, h2, h3⟩ := ownR_mine HO.out hp
            cases ee
            exact ⟨gg, fun _ => ⟨rfl, h1, cell_lt (h3.rows 0 hp).1, h2, h3⟩⟩
          · exact ⟨0, fun h => absurd h hp⟩
        have HGG := hid_mk hgg
        have hmm : ¬ ((L.length : Nat) : Int) < (L.length : Int) := by omega
        clear hML hgg HO HM
        go_wp2_with fail
        go_loopw [64] (fun x wi => ∃ m : Nat, m ≤ M.length ∧ x = .int .i64 (m : Int) ∧ ∃ M' : List R1, M'.Perm M ∧ (0 < M.length → MineAt wi gg M' ∧ gg < wi.heap.size) ∧ Ext w2 wi) (fun x _ => M.length - (intOf x).toNat)
        case atStart => exact ⟨0, Nat.zero_le _, rfl, M, List.Perm.refl _, fun h => ⟨(HGG.out h).2.2.2.2, (HGG.out h).2.2.1⟩, HXR.out⟩
        case round =>
          clear HXR
          obtain ⟨m, hm, rfl, M', hpm, hmine, hx⟩ := hrel
          have HPM := hid_mk hpm
          have HMI := hid_mk hmine
          have HXR := hid_mk hx
          have hlm := hpm.length_eq
          clear hpm hmine hx
          by_cases hlt : m < M.length
          · obtain ⟨rfl, hgB, -, hgc, -⟩ := HGG.out (by omega)
            have HGB := hid_mk hgB
            obtain ⟨pa', pc, rfl, hpc, hpl, hpr, hpcells⟩ := HP.out
            have HPC := hid_mk hpcells
            have HPR := hid_mk hpr
            have hm63 : (m : Int) < (M.length : Int) := by omega
            have hm0 : (0 : Int) ≤ (m : Int) := by omega
            have hw1 : wrap64 ((m : Int) + 1) = (m : Int) + 1 := w64in (by have := HM5.out; omega)
            clear hpcells hpr hgc hgB
            by_cases hmp : m < P.length
            · obtain ⟨pb, po, rfl, hpi⟩ := HPC.out (by omega)
              have hpx := (Xt.of (Ext.trans _ _ _ HX.out HXR.out) : Xt none _ _).rd (hpi m hmp) (by simp)
              have hpblt := cell_lt hpx
              have hmp1 : (m : Int) < (P.length : Int) := by omega
              have hrng := HPR.out P[m] (List.getElem_mem hmp)
              generalize hpk : P[m] = pk at *
              obtain ⟨kn, hkn, hkl⟩ : ∃ kn : Nat, am pk (M.length : Int) = (kn : Int) ∧ kn < M.length := by
                have h1 := Int.emod_nonneg pk (show (M.length : Int) ≠ 0 by omega)
                have h2 := Int.emod_lt_of_pos pk (show (0 : Int) < (M.length : Int) by omega)
                refine ⟨(pk % (M.length : Int)).toNat, ?_, by omega⟩
                unfold am
                rw [if_neg (by omega)]
                omega
              have HKN := hid_mk hkn
              have HRG := hid_mk hrng
              clear hpi hpk hrng hkn
              go_wp2_with fail
              refine (among_any pk (M.length : Int) HRG.out (by have := HM5.out; omega) _).mono ?_
              rintro e w5 ⟨rfl, rfl⟩
              rw [HKN.out]
              have hmi := HMI.out (by omega)
              obtain ⟨d0, d1, d2, d3⟩ := hmi.1.rows m (by omega)
              obtain ⟨x0, x1, x2, x3⟩ := hmi.1.rows kn (by omega)
              have HSW := hid_mk (swap_perm (M := M') (i := m) (k := kn) (by omega) (by omega))
              have HLM := hid_mk hlm
              rw [Nat.zero_add] at d0 d1 d2 d3 x0 x1 x2 x3
              generalize hdm : M'[m]'(by omega) = dm at *
              generalize hdk : M'[kn]'(by omega) = dk at *
              have hglt := hmi.2
              have hk63 : (kn : Int) < (M.length : Int) := by omega
              have hk0 : (0 : Int) ≤ (kn : Int) := by omega
              have HLK := hid_mk hkl
              clear hmi hlm hdm hdk
              go_wp2_with fail
              refine wp_region_held_plan (Xt (some gg)) (fun _ => true) (.quiet 0 (.quiet 1 (.quiet 2 (.quiet 3 (.quiet 4 (.quiet 5 (.quiet 6 (.quiet 8 (.quiet 9 (.quiet 10 (.alt 7 (.alt 11 (.quiet 12 (.alt 13 (.quiet 14 (.alt 15 .done .stop)) .stop)) .stop) (.alt 11 (.alt 7 (.quiet 12 (.alt 13 (.quiet 14 (.alt 15 .done .stop)) .stop)) .stop) .stop)))))))))))) (by kernel_rfl) (by kernel_rfl) Xt.refl Xt.trans (by intro c a w d v h; cases d <;> exact h) (fun ops HO => ?_)
              refine plan_read _ (hi_of HO rfl) rfl (fun w' hE => by (repeat (with_reducible replace hE := Xt.unD hE)); have hcE := hE.hc; clear hE; go_simp; rfl) ?_
              simp only [Act.put, List.setIfInBounds_toArray, List.set_cons_succ, List.set_cons_zero]
              refine plan_read _ (hi_of HO rfl) rfl (fun w' hE => by (repeat (with_reducible replace hE := Xt.unD hE)); have hcE := hE.hc; clear hE; go_simp; rfl) ?_
              simp only [Act.put, List.setIfInBounds_toArray, List.set_cons_succ, List.set_cons_zero]
              refine plan_read _ (hi_of HO rfl) rfl (fun w' hE => by (repeat (with_reducible replace hE := Xt.unD hE)); have hcE := hE.hc; clear hE; go_simp; rfl) ?_
              simp only [Act.put, List.setIfInBounds_toArray, List.set_cons_succ, List.set_cons_zero]
              refine plan_read _ (hi_of HO rfl) rfl (fun w' hE => by (repeat (with_reducible replace hE := Xt.unD hE)); have hcE := hE.hc; clear hE; go_simp; rfl) ?_
              simp only [Act.put, List.setIfInBounds_toArray, List.set_cons_succ, List.set_cons_zero]
              refine plan_read _ (hi_of HO rfl) rfl (fun w' hE => by (repeat (with_reducible replace hE := Xt.unD hE)); have hcE := hE.hc; clear hE; go_simp; rfl) ?_
              simp only [Act.put, List.setIfInBounds_toArray, List.set_cons_succ, List.set_cons_zero]
              refine plan_read _ (hi_of HO rfl) rfl (fun w' hE => by (repeat (with_reducible replace hE := Xt.unD hE)); have hcE := hE.hc; clear hE; go_simp; rfl) ?_
              simp only [Act.put, List.setIfInBounds_toArray, List.set_cons_succ, List.set_cons_zero]
              refine plan_read _ (hi_of HO rfl) rfl (fun w' hE => by (repeat (with_reducible replace hE := Xt.unD hE)); have hcE := hE.hc; clear hE; go_simp; rfl) ?_
              simp only [Act.put, List.setIfInBounds_toArray, List.set_cons_succ, List.set_cons_zero]
              refine plan_read _ (hi_of HO rfl) rfl (fun w' hE => by (repeat (with_reducible replace hE := Xt.unD hE)); have hcE := hE.hc; clear hE; go_simp; rfl) ?_
              simp only [Act.put, List.setIfInBounds_toArray, List.set_cons_succ, List.set_cons_zero]
              refine plan_read _ (hi_of HO rfl) rfl (fun w' hE => by (repeat (with_reducible replace hE := Xt.unD hE)); have hcE := hE.hc; clear hE; go_simp; rfl) ?_
              simp only [Act.put, List.setIfInBounds_toArray, List.set_cons_succ, List.set_cons_zero]
              refine plan_read _ (hi_of HO rfl) rfl (fun w' hE => by (repeat (with_reducible replace hE := Xt.unD hE)); have hcE := hE.hc; clear hE; go_simp; rfl) ?_
              simp only [Act.put, List.setIfInBounds_toArray, List.set_cons_succ, List.set_cons_zero]
              refine plan_fork ?lA101 ?lB101
              case' lA101 =>
                refine plan_loud1 (hi_of HO rfl) rfl ?_
                go_simp
                refine ⟨by (repeat (first | exact Xt.refl _ | apply Xt.drew_left | apply Xt.drew | apply Xt.alloc)), ?_⟩
                refine plan_loud1 (hi_of HO rfl) rfl ?_
                go_simp
                refine ⟨by (repeat (first | exact Xt.refl _ | apply Xt.drew_left | apply Xt.drew | apply Xt.alloc)), ?_⟩
                refine plan_read _ (hi_of HO rfl) rfl (fun w' hE => by (repeat (with_reducible replace hE := Xt.unD hE)); have hcE := hE.hc; clear hE; go_simp; rfl) ?_
                simp only [Act.put, List.setIfInBounds_toArray, List.set_cons_succ, List.set_cons_zero]
                refine plan_loud1 (hi_of HO rfl) rfl (wp_store_mid 75 (.tmp 90) (.tmp 85) rfl gg (m * 4) #[.string dk.1, .int .i64 dk.2.1, .int .u64 dk.2.2.1, .int .u64 dk.2.2.2] (by go_simp) (by go_simp) (((HMI.out (by omega)).1.xt hglt (by (repeat (first | exact Ext.refl _ | apply Ext.drew_left | apply Ext.drew | apply Ext.alloc)))).there (by have := HLM.out; omega)) rfl (one4 dk) ?_)
                refine ⟨fun _ => (xset_row : Xt (some gg) _ (putRow _ gg _ _)), ?_⟩
                simp only [Act.put, List.setIfInBounds_toArray, List.set_cons_succ, List.set_cons_zero]
                refine plan_read _ (hi_of HO rfl) rfl (fun w' hE => by (repeat (with_reducible replace hE := Xt.unD hE)); have hcE := hE.hc; clear hE; go_simp; rfl) ?_
                simp only [Act.put, List.setIfInBounds_toArray, List.set_cons_succ, List.set_cons_zero]
                refine plan_loud1 (hi_of HO rfl) rfl (wp_store_mid 75 (.tmp 91) (.tmp 89) rfl gg (kn * 4) #[.string dm.1, .int .i64 dm.2.1, .int .u64 dm.2.2.1, .int .u64 dm.2.2.2] (by go_simp) (by go_simp) (MineAt.there (M := M'.set m dk) (setCells_putRow ▸ MineAt.put ((HMI.out (by omega)).1.xt hglt (by (repeat (first | exact Ext.refl _ | apply Ext.drew_left | apply Ext.drew | apply Ext.alloc)))) (by have := HLM.out; omega)) (by rw [List.length_set]; have := HLM.out; have := HLK.out; omega)) rfl (one4 dm) ?_)
                refine ⟨fun _ => (xset_row : Xt (some gg) _ (putRow _ gg _ _)), ?_⟩
                simp only [Act.put, List.setIfInBounds_toArray, List.set_cons_succ, List.set_cons_zero]
                refine plan_done ?fin102
              case' lB101 =>
                refine plan_loud1 (hi_of HO rfl) rfl ?_
                go_simp
                refine ⟨by (repeat (first | exact Xt.refl _ | apply Xt.drew_left | apply Xt.drew | apply Xt.alloc)), ?_⟩
                refine plan_loud1 (hi_of HO rfl) rfl ?_
                go_simp
                refine ⟨by (repeat (first | exact Xt.refl _ | apply Xt.drew_left | apply Xt.drew | apply Xt.alloc)), ?_⟩
                refine plan_read _ (hi_of HO rfl) rfl (fun w' hE => by (repeat (with_reducible replace hE := Xt.unD hE)); have hcE := hE.hc; clear hE; go_simp; rfl) ?_
                simp only [Act.put, List.setIfInBounds_toArray, List.set_cons_succ, List.set_cons_zero]
                refine plan_loud1 (hi_of HO rfl) rfl (wp_store_mid 75 (.tmp 90) (.tmp 85) rfl gg (m * 4) #[.string dk.1, .int .i64 dk.2.1, .int .u64 dk.2.2.1, .int .u64 dk.2.2.2] (by go_simp) (by go_simp) (((HMI.out (by omega)).1.xt hglt (by (repeat (first | exact Ext.refl _ | apply Ext.drew_left | apply Ext.drew | apply Ext.alloc)))).there (by have := HLM.out; omega)) rfl (one4 dk) ?_)
                refine ⟨fun _ => (xset_row : Xt (some gg) _ (putRow _ gg _ _)), ?_⟩
                simp only [Act.put, List.setIfInBounds_toArray, List.set_cons_succ, List.set_cons_zero]
                refine plan_read _ (hi_of HO rfl) rfl (fun w' hE => by (repeat (with_reducible replace hE := Xt.unD hE)); have hcE := hE.hc; clear hE; go_simp; rfl) ?_
                simp only [Act.put, List.setIfInBounds_toArray, List.set_cons_succ, List.set_cons_zero]
                refine plan_loud1 (hi_of HO rfl) rfl (wp_store_mid 75 (.tmp 91) (.tmp 89) rfl gg (kn * 4) #[.string dm.1, .int .i64 dm.2.1, .int .u64 dm.2.2.1, .int .u64 dm.2.2.2] (by go_simp) (by go_simp) (MineAt.there (M := M'.set m dk) (setCells_putRow ▸ MineAt.put ((HMI.out (by omega)).1.xt hglt (by (repeat (first | exact Ext.refl _ | apply Ext.drew_left | apply Ext.drew | apply Ext.alloc)))) (by have := HLM.out; omega)) (by rw [List.length_set]; have := HLM.out; have := HLK.out; omega)) rfl (one4 dm) ?_)
                refine ⟨fun _ => (xset_row : Xt (some gg) _ (putRow _ gg _ _)), ?_⟩
                simp only [Act.put, List.setIfInBounds_toArray, List.set_cons_succ, List.set_cons_zero]
                refine plan_done ?fin103
              all_goals
                go_wp2
                go_roundw
                case rel =>
                  refine ⟨m + 1, Nat.succ_le_of_lt hlt, (by first | exact congrArg (Value.int .i64) hw1 | rfl), (M'.set m dk).set kn dm, HSW.out.trans HPM.out, fun h => ⟨?_, ?_⟩, ?_⟩
                  · exact MineAt.put (MineAt.put ((HMI.out h).1.xt hglt (by (repeat (first | exact Ext.refl _ | apply Ext.drew_left | apply Ext.drew | apply Ext.alloc)))) (by have := HLM.out; omega)) (by rw [List.length_set]; have := HLM.out; have := HLK.out; omega)
                  · have := hglt; simp [World.setCells, World.setCell]; exact this
                  · exact ext_putRow (ext_putRow (Ext.drew HXR.out) HGB.out) HGB.out
                case measure => (try simp only [hw1]); clear hw1; simp [intOf]; omega
            · go_wp2
              go_roundw
              case rel => exact ⟨m + 1, Nat.succ_le_of_lt hlt, (by first | exact congrArg (Value.int .i64) hw1 | rfl), M', HPM.out, HMI.out, HXR.out⟩
              case measure => (try simp only [hw1]); clear hw1; simp [intOf]; omega
          · obtain rfl : m = M.length := by omega
            have hmm2 : ¬ ((M.length : Nat) : Int) < (M.length : Int) := by omega
            have HRS : Hid (RowsSl wr (.slice pa M.length cm) M') := hid_mk (by
              by_cases hp : 0 < M.length
              · obtain ⟨rfl, -, -, hcm, -⟩ := HGG.out hp
                have h1 := (HMI.out hp).1.sl (c := cm) (by omega) (by have := HM5.out; omega)
                rw [hlm] at h1
                exact h1
              · have h0 : M'.length = 0 := by omega
                have h1 : M' = [] := List.eq_nil_of_length_eq_zero h0
                subst h1
                refine ⟨pa, cm, ?_, by simp, by simp, by simp⟩
                have : M.length = 0 := by omega
                rw [this]; rfl)
            have HPL := hid_mk (show M'.Perm (lastOf L) from HML.out ▸ HPM.out)
            have hgb : Good (puts M' .nil) := good_puts M' .nil good_nil (lastOf_in HR.out HPL.out) (by have := HM5.out; simp only [Tr.size]; omega)
            have hrw : (puts M' (.nil : T1)).rows = (puts L (.nil : T1)).rows := turned_rows HPL.out
            have hsz1 := same_size hrw
            have hsz2 := turned_size HPL.out
            have HTAr := hid_mk (HTA.out.ext HXR.out)
            obtain ⟨Ta, hTa⟩ : ∃ T, puts L (.nil : T1) = T := ⟨_, rfl⟩
            obtain ⟨Tb, hTb⟩ : ∃ T, puts M' (.nil : T1) = T := ⟨_, rfl⟩
            rw [hTa] at hrw hsz1 HG HTAr
            rw [hTb] at hrw hsz1 hsz2 hgb
            have HTB := hid_mk hTb
            have HRW := hid_mk hrw
            have HGB := hid_mk hgb
            obtain ⟨n, hn⟩ : ∃ n : Nat, M.length = n := ⟨_, rfl⟩
            have HNB := hid_mk (show Tb.size = n by omega)
            have HNA := hid_mk (show Ta.size = n by omega)
            have HN5 := hid_mk (show n ≤ 512 by have := HM5.out; omega)
            have HXW := hid_mk (Ext.trans _ _ _ HX.out HXR.out)
            rw [hn]
            rw [hn] at HRS
            clear hsz1 hsz2 hrw hgb hTa hTb HTA HMI HPM HGG hlm hmm2 HM5 HML hm hn
            go_wp2_with fail
            refine (grown_any M' _ _ HRS.out).mono ?_
            rintro e w6 ⟨tb, rfl, -, hT, hx⟩
            rw [HTB.out] at hT
            have HTBr := hid_mk hT
            replace HTAr := hid_mk (HTAr.out.ext hx)
            replace HXW := hid_mk (Ext.trans _ _ _ HXW.out hx)
            clear hT hx
            go_wp2_with fail
            refine (mlen HTAr.out).mono ?_
            rintro e w7 ⟨rfl, rfl⟩
            rw [HNA.out]
            go_wp2_with fail
            refine (mlen HTBr.out).mono ?_
            rintro e w8 ⟨rfl, rfl⟩
            rw [HNB.out]
            go_wp2_with fail
            go_loopw [16] (fun x wi => ∃ m : Nat, m ≤ n + 1 ∧ x = .int .i64 (m : Int) ∧ MTree wi ta Ta ∧ MTree wi tb Tb ∧ Ext W wi) (fun x _ => n + 1 - (intOf x).toNat)
            case atStart => exact ⟨0, Nat.zero_le _, rfl, HTAr.out, HTBr.out, HXW.out⟩
            case round =>
              clear HTAr HTBr HXW
              obtain ⟨m, hm, rfl, hTa, hTb, hx⟩ := hrel
              have HTAr := hid_mk hTa
              have HTBr := hid_mk hTb
              have HXW := hid_mk hx
              clear hTa hTb hx
              by_cases hle : m ≤ n
              · have hm1 : (m : Int) ≤ (n : Int) := by omega
                have hw1 : wrap64 ((m : Int) + 1) = (m : Int) + 1 := w64in (by have := HN5.out; omega)
                have HR1 := hid_mk (show -9223372036854775808 ≤ (m : Int) ∧ (m : Int) ≤ 9223372036854775807 by have := HN5.out; omega)
                have HR2 := hid_mk (show -9223372036854775808 ≤ (n : Int) ∧ (n : Int) ≤ 9223372036854775807 by have := HN5.out; omega)
                go_wp2_with fail
                refine (mat (m : Int) HR1.out HTAr.out HG.out).mono ?_
                rintro e w9 ⟨rfl, hx⟩
                replace HXW := hid_mk (Ext.trans _ _ _ HXW.out hx)
                replace HTAr := hid_mk (HTAr.out.ext hx)
                replace HTBr := hid_mk (HTBr.out.ext hx)
                clear hx
                obtain ⟨y, hy⟩ : ∃ y, Ta.at_ (m : Int) = y := ⟨_, rfl⟩
                have HY := hid_mk ((same_at HRW.out (m : Int)).trans hy)
                rw [hy]
                simp only [atV1]
                generalize hy1 : (Option.map (fun r : ByteArray × Int => r.1) y).getD ⟨#[]⟩ = y1
                generalize hy2 : (Option.map (fun r : ByteArray × Int => r.2) y).getD zV1 = y2
                generalize hy3 : y.isSome = y3
                have HYS := hid_mk (And.intro hy1 (And.intro hy2 hy3))
                clear hy hy1 hy2 hy3
                go_wp2_with fail
                refine (mat (m : Int) HR1.out HTBr.out HGB.out).mono ?_
                rintro e w10 ⟨rfl, hx⟩
                replace HXW := hid_mk (Ext.trans _ _ _ HXW.out hx)
                replace HTAr := hid_mk (HTAr.out.ext hx)
                replace HTBr := hid_mk (HTBr.out.ext hx)
                clear hx
                rw [HY.out]
                simp only [atV1]
                rw [HYS.out.1, HYS.out.2.1, HYS.out.2.2]
                go_wp2_with fail
                refine (mfold 0 (m : Int) (by first | exact HR1.out | exact HR2.out | omega) (by first | exact HR1.out | exact HR2.out | omega) HTAr.out HG.out).mono ?_
                rintro e w11 ⟨rfl, hx⟩
                replace HXW := hid_mk (Ext.trans _ _ _ HXW.out hx)
                replace HTAr := hid_mk (HTAr.out.ext hx)
                replace HTBr := hid_mk (HTBr.out.ext hx)
                clear hx
                generalize hfa : mf Ta 0 (m : Int) = fa
                have HFA := hid_mk ((same_mf HRW.out 0 (m : Int)).trans hfa)
                clear hfa
                go_wp2_with fail
                refine (mfold 0 (m : Int) (by first | exact HR1.out | exact HR2.out | omega) (by first | exact HR1.out | exact HR2.out | omega) HTBr.out HGB.out).mono ?_
                rintro e w12 ⟨rfl, hx⟩
                replace HXW := hid_mk (Ext.trans _ _ _ HXW.out hx)
                replace HTAr := hid_mk (HTAr.out.ext hx)
                replace HTBr := hid_mk (HTBr.out.ext hx)
                clear hx
                rw [HFA.out]
                go_wp2_with fail
                refine (mfold (m : Int) (n : Int) (by first | exact HR1.out | exact HR2.out | omega) (by first | exact HR1.out | exact HR2.out | omega) HTAr.out HG.out).mono ?_
                rintro e w11 ⟨rfl, hx⟩
                replace HXW := hid_mk (Ext.trans _ _ _ HXW.out hx)
                replace HTAr := hid_mk (HTAr.out.ext hx)
                replace HTBr := hid_mk (HTBr.out.ext hx)
                clear hx
                generalize hfa : mf Ta (m : Int) (n : Int) = fa
                have HFA := hid_mk ((same_mf HRW.out (m : Int) (n : Int)).trans hfa)
                clear hfa
                go_wp2_with fail
                refine (mfold (m : Int) (n : Int) (by first | exact HR1.out | exact HR2.out | omega) (by first | exact HR1.out | exact HR2.out | omega) HTBr.out HGB.out).mono ?_
                rintro e w12 ⟨rfl, hx⟩
                replace HXW := hid_mk (Ext.trans _ _ _ HXW.out hx)
                replace HTAr := hid_mk (HTAr.out.ext hx)
                replace HTBr := hid_mk (HTBr.out.ext hx)
                clear hx
                rw [HFA.out]
                go_wp2_with fail
                go_wp2
                go_roundw
                case rel => exact ⟨m + 1, by omega, (by first | exact congrArg (Value.int .i64) hw1 | rfl), HTAr.out, HTBr.out, HXW.out⟩
                case measure => (try simp only [hw1]); clear hw1; simp [intOf]; omega
              · have hm1 : ¬ (m : Int) ≤ (n : Int) := by omega
                go_wp2
                go_ret
                exact ⟨rfl, HXW.out⟩
end Go.Proofs.Ytgglbohcnlcagaa
