/- Judging: the document's Max. Judging: own rows of strings; merge's Differ. -/
import Derived.Test.YtokcgnbjkbhmiaaDoorMJA
import Derived.Sort.CutIn
namespace Go.Proofs.YtokcgnbjkbhmiaaDoor
open Go.RowKit
set_option maxHeartbeats 4000000
set_option maxRecDepth 100000
set_option linter.unusedSimpArgs false
set_option linter.unusedVariables false
attribute [-go_sem] Builtin.append_

def rBest (p : Ent × Ent) : Ent := if p.1.ctr = 0 then p.2 else bestE p.1 p.2
def rmaxR (a b : List Ent) : List Ent := if chk2 a b = 0 then (prs a b).map rBest else []
theorem r9Max_any {w : World} (a b : List Ent) (av bv : Value) (hs : EntSl w av a) (hs' : EntSl w bv b) (hla : a.length ≤ 300000000) (hlb : b.length ≤ 300000000) :
    Calls Tryd.prog 46 #[av, bv] w fun e w' => ∃ v, e = .returned (.tuple #[v, .int .i64 (chk2 a b)]) ∧ OwEn w' w.heap.size v (rmaxR a b) ∧ Ext w w' := by
  have HS := hid_mk (And.intro hs hs')
  have HLL := hid_mk (And.intro hla hlb)
  obtain ⟨xa, xc, rfl, -⟩ := hs
  obtain ⟨ya, yc, rfl, -⟩ := hs'
  obtain ⟨z, hz⟩ : ∃ z, chk2 a b = z := ⟨_, rfl⟩
  have HZ := hid_mk hz
  rw [hz]
  clear hla hlb hz
  by_cases hz0 : z = 0
  · subst hz0
    have HMR := hid_mk (show rmaxR a b = (prs a b).map rBest by rw [rmaxR, if_pos HZ.out])
    obtain ⟨ps, hps⟩ : ∃ ps, prs a b = ps := ⟨_, rfl⟩
    rw [HMR.out, hps]
    have HPS := hid_mk hps
    clear hps HMR
    have HAB0 := hid_mk (show mChk a = 0 ∧ mChk b = 0 by
      have h := HZ.out
      unfold chk2 at h
      split at h
      · rename_i h1; exact absurd h h1
      · rename_i h1; exact ⟨by simpa using h1, h⟩)
    go_enter Tryd.func46, Tryd.ntmps46
    go_wp2_with fail
    refine (r9Check2_any a b _ _ _ HS.out.1 HS.out.2).mono ?_
    rintro e W1 ⟨rfl, hx1⟩
    rw [show (if mChk a ≠ 0 then mChk a else mChk b) = 0 from HZ.out]
    have HX1 := hid_mk hx1
    clear hx1
    go_wp2_with fail
    refine (r9Pairs_big a b _ _ _ (HS.out.1.ext HX1.out) (HS.out.2.ext HX1.out) HAB0.out.1 HAB0.out.2 HLL.out.1 HLL.out.2).mono ?_
    rintro e W2 ⟨pv, rfl, hop, hx2⟩
    have HX2 := hid_mk (Ext.trans _ _ _ HX1.out hx2)
    rw [HPS.out] at hop
    have HPL := hid_mk (show ps.length ≤ 600000000 by
      have := prs_len a b
      have := HLL.out
      rw [HPS.out] at *
      omega)
    have HOP := hid_mk (fun (hp : 0 < ps.length) => ownP_at hop hp)
    obtain ⟨pa, pc, rfl⟩ := own_form hop
    clear hop hx2 HX1
    go_wp2_with fail
    obtain ⟨n, hn⟩ : ∃ n, W2.heap.size = n := ⟨_, rfl⟩
    have HN := hid_mk hn
    have HE0 := hid_mk (show OwEn (W2.alloc (.cells #[] 57)) n (.slice (some ⟨n, 0, none⟩) 0 0) [] from ownE_empty (by rw [← hn]; exact heap_alloc_new W2 _) (Nat.le_refl _))
    have hx3 : Ext W2 (W2.alloc (.cells #[] 57)) := by (repeat (first | exact Ext.refl _ | apply Ext.drew_left | apply Ext.drew | apply Ext.alloc))
    have HX3 := hid_mk hx3
    rw [hn]
    clear hx3 hn
    go_loopw [8, 9] (fun v i wr => ∃ m : Nat, m ≤ ps.length ∧ i = .int .i64 (m : Int) ∧ OwEn wr n v ((ps.take m).map rBest) ∧ Ext W2 wr) (fun v i _ => ps.length - (intOf i).toNat)
    case atStart => exact ⟨0, Nat.zero_le _, rfl, HE0.out, HX3.out⟩
    case round =>
      clear HX3 HE0
      rename_i v
      obtain ⟨m, hm, rfl, how, hx⟩ := hrel
      have HOW := hid_mk how
      have HX := hid_mk hx
      clear how hx
      by_cases hlt : m < ps.length
      · obtain ⟨g, c', e', hat⟩ := HOP.out (by omega)
        cases e'
        have hgn : g < n := by
          have h1 := cell_lt (hat m hlt).1.c0
          rw [← HN.out]
          exact h1
        obtain ⟨⟨p0, p1, p2, p3, p4⟩, ⟨q0, q1, q2, q3, q4⟩⟩ := hat m hlt
        replace p0 := cell_ext HX.out p0
        replace p1 := cell_ext HX.out p1
        replace p2 := cell_ext HX.out p2
        replace p3 := cell_ext HX.out p3
        replace p4 := cell_ext HX.out p4
        replace q0 := cell_ext HX.out q0
        replace q1 := cell_ext HX.out q1
        replace q2 := cell_ext HX.out q2
        replace q3 := cell_ext HX.out q3
        replace q4 := cell_ext HX.out q4
        have hgl := cell_lt p0
        have HTK := hid_mk (show (ps.take (m + 1)).map rBest = (ps.take m).map rBest ++ [rBest ps[m]] by rw [List.take_succ_eq_append_getElem hlt, List.map_append, List.map_cons, List.map_nil])
        have HTL := hid_mk (show ((ps.take m).map rBest).length = m by rw [List.length_map, List.length_take]; omega)
        obtain ⟨x, hxx⟩ : ∃ x, ps[m] = x := ⟨_, rfl⟩
        rw [hxx] at p0 p1 p2 p3 p4 q0 q1 q2 q3 q4 HTK
        have hm1 : (m : Int) < (ps.length : Int) := by omega
        have hm0 : (0 : Int) ≤ (m : Int) := by omega
        have HW := hid_mk (show wrap64 ((m : Int) + 1) = (m : Int) + 1 from w64in (by have := HPL.out; omega))
        obtain ⟨va, vc, ev⟩ := own_form HOW.out
        rw [HTL.out] at ev
        subst ev
        clear hat hxx
        go_wp2_with fail
        refine (none_any x.1 _).mono ?_
        rintro e W3 ⟨rfl, hx3⟩
        obtain ⟨nb, hnb⟩ : ∃ nb, decide (x.1.ctr = 0) = nb := ⟨_, rfl⟩
        have HNB := hid_mk hnb
        rw [hnb]
        have HX3 := hid_mk hx3
        replace p0 := cell_ext hx3 p0
        replace p1 := cell_ext hx3 p1
        replace p2 := cell_ext hx3 p2
        replace p3 := cell_ext hx3 p3
        replace p4 := cell_ext hx3 p4
        replace q0 := cell_ext hx3 q0
        replace q1 := cell_ext hx3 q1
        replace q2 := cell_ext hx3 q2
        replace q3 := cell_ext hx3 q3
        replace q4 := cell_ext hx3 q4
        replace hgl := cell_lt p0
        clear hx3 hnb
        cases nb with
        | true =>
          have hx4 : Ext wr (W3.alloc (.cells #[.string x.2.key, .int .i64 x.2.ctr, .int .i64 x.2.node, .string x.2.val, .bool x.2.dead] 57)) := HX3.out.alloc _
          obtain ⟨v', w', hrun, ho, hg, hob⟩ := appendE (w := W3.alloc (.cells #[.string x.2.key, .int .i64 x.2.ctr, .int .i64 x.2.node, .string x.2.val, .bool x.2.dead] 57)) (HOW.out.ext hx4) (lv := .slice (some ⟨W3.heap.size, 0, none⟩) 1 1) (L := [x.2]) ⟨_, 1, rfl, Nat.le_refl _, by simp, fun _ => ⟨_, 0, rfl, fun i hi => by
            obtain rfl : i = 0 := by simpa using hi
            exact ⟨by go_simp, by go_simp, by go_simp, by go_simp, by go_simp⟩⟩⟩ (by rw [HTL.out]; have := HPL.out; simp; omega) (by have := HN.out; have := HX.out.below.size; have := hx4.below.size; omega)
          have hxw := ext_grown (base := n) (Ext.trans _ _ _ HX.out hx4) hg (HOW.out.ext hx4) (by rw [HN.out]; exact Nat.le_refl _)
          rw [show x.2 = rBest x by rw [rBest, if_pos (of_decide_eq_true HNB.out)]] at ho
          rw [← HTK.out] at ho
          have HOF := hid_mk (And.intro ho hxw)
          obtain ⟨va', vc', eva⟩ := own_form ho
          subst eva
          clear ho hg hxw hx4 hob
          go_wp2
          go_roundw
          case rel => exact ⟨m + 1, hlt, (by first | exact congrArg (Value.int .i64) HW.out | rfl), (by have h := HOF.out.1; rw [show ((ps.take (m + 1)).map rBest).length = min (m + 1) ps.length by simp] at h; exact h), HOF.out.2⟩
          case measure => (try simp only [HW.out]); simp [intOf]; omega
        | false =>
          obtain ⟨be, hbe⟩ : ∃ be, bestE x.1 x.2 = be := ⟨_, rfl⟩
          have HBE := hid_mk hbe
          have HRB := hid_mk (show rBest x = be by rw [rBest, if_neg (of_decide_eq_false HNB.out)]; exact hbe)
          have hobn : ∀ k, (Value.slice va m vc).ownBlock = some k → n ≤ k := fun k e => (World.ownsRow.lt HOW.out k e).1
          have HNG := hid_mk (show g ∉ (Value.slice va m vc).ownBlock.toList from fun hm => by have := hobn g (by simpa using hm); omega)
          obtain ⟨ob, hob⟩ : ∃ ob, (Value.slice va m vc).ownBlock.toList = ob := ⟨_, rfl⟩
          rw [hob] at HNG
          have HOB := hid_mk hob
          clear hbe hobn hob
          go_wp2_with fail
          refine wp_region_held_planC (Xl ob) (fun _ => true) (fun i => [0, 1, 2, 3, 4, 6, 7, 8, 9, 14].contains i) (.quiet 0 (.quiet 1 (.quiet 2 (.quiet 3 (.quiet 4 (.quiet 5 (.quiet 6 (.quiet 7 (.quiet 8 (.quiet 9 (.quiet 10 (.alt 11 (.alt 12 (.alt 13 (.quiet 14 .done) .stop) .stop) .stop)))))))))))) (by kernel_rfl) (by kernel_rfl) Xl.refl Xl.trans (by intro c a w d v h; cases d <;> exact h) (fun ops HO => ?_)
          refine planC_calm _ (hi_of HO rfl) rfl (fun w' => by go_simp; rfl) ?_
          simp only [Act.put, List.setIfInBounds_toArray, List.set_cons_succ, List.set_cons_zero]
          refine planC_calm _ (hi_of HO rfl) rfl (fun w' => by go_simp; rfl) ?_
          simp only [Act.put, List.setIfInBounds_toArray, List.set_cons_succ, List.set_cons_zero]
          refine planC_calm _ (hi_of HO rfl) rfl (fun w' => by go_simp; rfl) ?_
          simp only [Act.put, List.setIfInBounds_toArray, List.set_cons_succ, List.set_cons_zero]
          refine planC_calm _ (hi_of HO rfl) rfl (fun w' => by go_simp; rfl) ?_
          simp only [Act.put, List.setIfInBounds_toArray, List.set_cons_succ, List.set_cons_zero]
          refine planC_calm _ (hi_of HO rfl) rfl (fun w' => by go_simp; rfl) ?_
          simp only [Act.put, List.setIfInBounds_toArray, List.set_cons_succ, List.set_cons_zero]
          refine planC_read _ (hi_of HO rfl) rfl rfl (fun w' hE => by have hcE := fun o => hE.cell (k := g) (o := o) hgl HNG.out; clear hE; go_simp; rfl) ?_
          simp only [Act.put, List.setIfInBounds_toArray, List.set_cons_succ, List.set_cons_zero]
          refine planC_calm _ (hi_of HO rfl) rfl (fun w' => by go_simp; rfl) ?_
          simp only [Act.put, List.setIfInBounds_toArray, List.set_cons_succ, List.set_cons_zero]
          refine planC_calm _ (hi_of HO rfl) rfl (fun w' => by go_simp; rfl) ?_
          simp only [Act.put, List.setIfInBounds_toArray, List.set_cons_succ, List.set_cons_zero]
          refine planC_calm _ (hi_of HO rfl) rfl (fun w' => by go_simp; rfl) ?_
          simp only [Act.put, List.setIfInBounds_toArray, List.set_cons_succ, List.set_cons_zero]
          refine planC_calm _ (hi_of HO rfl) rfl (fun w' => by go_simp; rfl) ?_
          simp only [Act.put, List.setIfInBounds_toArray, List.set_cons_succ, List.set_cons_zero]
          refine planC_read _ (hi_of HO rfl) rfl rfl (fun w' hE => by have hcE := fun o => hE.cell (k := g) (o := o) hgl HNG.out; clear hE; go_simp; rfl) ?_
          simp only [Act.put, List.setIfInBounds_toArray, List.set_cons_succ, List.set_cons_zero]
          refine planC_call1 en_r3Best (hi_of HO rfl) rfl rfl (by go_simp; rfl) (by exact r3Best_any x.1 x.2 _) ?_
          rintro e W5 ⟨rfl, hx5⟩
          refine ⟨_, rfl, fun _ => Xl.of hx5, ?_⟩
          simp only [Act.put, List.setIfInBounds_toArray, List.set_cons_succ, List.set_cons_zero]
          have HX5 := hid_mk (Ext.trans _ _ _ (Ext.drew HX3.out) hx5)
          rw [HBE.out]
          clear p0 p1 p2 p3 p4 q0 q1 q2 q3 q4 hgl hx5
          refine planC_loud1 (hi_of HO rfl) rfl ?_
          go_simp
          refine ⟨Xl.of (by (repeat (first | exact Ext.refl _ | apply Ext.drew_left | apply Ext.drew | apply Ext.alloc))), ?_⟩
          have hx4 : Ext wr (W5.alloc (.cells #[.string be.key, .int .i64 be.ctr, .int .i64 be.node, .string be.val, .bool be.dead] 57)) := HX5.out.alloc _
          obtain ⟨v', w', hrun, ho, hg, hob⟩ := appendE (w := W5.alloc (.cells #[.string be.key, .int .i64 be.ctr, .int .i64 be.node, .string be.val, .bool be.dead] 57)) (HOW.out.ext hx4) (lv := .slice (some ⟨W5.heap.size, 0, none⟩) 1 1) (L := [be]) ⟨_, 1, rfl, Nat.le_refl _, by simp, fun _ => ⟨_, 0, rfl, fun i hi => by
          obtain rfl : i = 0 := by simpa using hi
          exact ⟨by go_simp, by go_simp, by go_simp, by go_simp, by go_simp⟩⟩⟩ (by rw [HTL.out]; have := HPL.out; simp; omega) (by have := HN.out; have := HX.out.below.size; have := hx4.below.size; omega)
          have hxw := ext_grown (base := n) (Ext.trans _ _ _ HX.out hx4) hg (HOW.out.ext hx4) (by rw [HN.out]; exact Nat.le_refl _)
          have hx6 := xl_grownB hg
          rw [HOB.out] at hx6
          rw [show be = rBest x from HRB.out.symm] at ho
          rw [← HTK.out] at ho
          obtain ⟨va', vc', eva⟩ := own_form ho
          subst eva
          have HOF := hid_mk (And.intro ho hxw)
          clear ho hg hxw hx4 hob
          refine planC_loud1 (hi_of HO rfl) rfl ?_
          go_simp
          clear hx6
          refine planC_calm _ (hi_of HO rfl) rfl (fun w' => by go_simp; rfl) ?_
          simp only [Act.put, List.setIfInBounds_toArray, List.set_cons_succ, List.set_cons_zero]
          refine planC_done ?fin101
          go_wp2
          go_roundw
          case rel => exact ⟨m + 1, hlt, (by first | exact congrArg (Value.int .i64) HW.out | rfl), (by have h := HOF.out.1; rw [show ((ps.take (m + 1)).map rBest).length = min (m + 1) ps.length by simp] at h; exact h), HOF.out.2⟩
          case measure => (try simp only [HW.out]); simp [intOf]; omega
      · obtain rfl : m = ps.length := by omega
        have hmm : ¬ ((ps.length : Nat) : Int) < (ps.length : Int) := by omega
        rw [List.take_length] at HOW
        have HXF := hid_mk (Ext.trans _ _ _ HX2.out HX.out)
        have HLN := hid_mk (show w.heap.size ≤ n by rw [← HN.out]; exact HX2.out.below.size)
        obtain ⟨va, vc, ev⟩ := own_form HOW.out
        subst ev
        rw [List.length_map] at *
        go_wp2
        refine bodyPost_ret (v := .tuple #[.slice va ps.length vc, .int .i64 0]) (by unfold results; rw [Tryd.results46]; go_simp; first | done | rfl) rfl ⟨_, rfl, HOW.out.lower HLN.out, HXF.out⟩
  · have HMR := hid_mk (show rmaxR a b = [] by rw [rmaxR, if_neg (by rw [HZ.out]; exact hz0)])
    rw [HMR.out]
    go_enter Tryd.func46, Tryd.ntmps46
    go_wp2_with fail
    refine (r9Check2_any a b _ _ _ HS.out.1 HS.out.2).mono ?_
    rintro e w1 ⟨rfl, hx1⟩
    rw [show (if mChk a ≠ 0 then mChk a else mChk b) = z from HZ.out]
    have HX1 := hid_mk hx1
    have hb : (z == 0) = false := by rw [beq_eq_false_iff_ne]; exact hz0
    clear hx1
    go_wp2
    refine bodyPost_ret (v := .tuple #[.slice none 0 0, .int .i64 z]) (by unfold results; rw [Tryd.results46]; go_simp; first | done | rfl) rfl ⟨_, rfl, ownE_nil _ _, HX1.out⟩
end Go.Proofs.YtokcgnbjkbhmiaaDoor
namespace Go.Proofs.YtokcgnbjkbhmiaaDoor
open Go.RowKit Go.Shelf
set_option maxHeartbeats 4000000
set_option maxRecDepth 100000
set_option linter.unusedSimpArgs false
set_option linter.unusedVariables false
attribute [local go_sem] Oper.semAt_some
attribute [local go_sem ↓] eql_ver neq_ver
attribute [-go_sem] Builtin.append_
def OwS (w : World) (B : Nat) (v : Value) (l : List ByteArray) : Prop := w.ownsRow B 9 1 v l.length (l.map Value.string)
theorem str_info : ∃ i z, Tryd.prog.info? 9 = some i ∧ i.size = 1 ∧ i.bytes ≤ 128 ∧ i.zero = some z ∧ z.cells = #[.string ⟨#[]⟩] := ⟨_, _, rfl, rfl, by decide, rfl, rfl⟩
theorem ownS_nil (w : World) (B : Nat) : OwS w B (.slice none 0 0) [] := ⟨rfl, .inl ⟨rfl, rfl⟩⟩
theorem ownS_empty {w : World} {B g : Nat} (hg : w.heap[g]? = some (.cells #[] 9 (0, 0))) (hB : B ≤ g) : OwS w B (.slice (some ⟨g, 0, none⟩) 0 0) [] :=
  ⟨rfl, .inr ⟨g, 0, #[], rfl, hB, hg, Nat.le_refl _, by unfold maxLen; omega, rfl, rfl⟩⟩
theorem OwS.ext {w w' : World} {B : Nat} {v : Value} {l : List ByteArray} (h : OwS w B v l) (hx : Ext w w') : OwS w' B v l := own_ext h hx
theorem OwS.lower {w : World} {B B' : Nat} {v : Value} {l : List ByteArray} (h : OwS w B v l) (hB : B' ≤ B) : OwS w B' v l :=
  ⟨h.1, h.2.imp id (fun ⟨g, cap, cur, e1, e2, e3⟩ => ⟨g, cap, cur, e1, Nat.le_trans hB e2, e3⟩)⟩
theorem OwS.xl {L : List Nat} {w w' : World} (hx : Xl L w w') {v : Value} (hn : ∀ g, v.ownBlock = some g → g ∉ L) {B : Nat} {l : List ByteArray} (h : OwS w B v l) : OwS w' B v l := by
  rcases h.2 with ⟨e1, e2⟩ | ⟨g, cap, cur, e1, e2, e3, e4⟩
  · exact ⟨h.1, .inl ⟨e1, e2⟩⟩
  · have hg : g ∉ L := hn g (by rw [e1]; rfl)
    exact ⟨h.1, .inr ⟨g, cap, cur, e1, e2, (hx.block g (Array.getElem?_eq_some_iff.1 e3).1 hg).trans e3, e4⟩⟩
theorem appendS {w : World} {B b : Nat} {v : Value} {M : List ByteArray} {p : ByteArray} (hown : OwS w B v M) (hb : w.heap[b]? = some (.cells #[.string p] 9 (0, 0))) (hl : M.length ≤ 1000000000) (hB : B ≤ w.heap.size) :
    ∃ v' w', (Builtin.append_ #[140, 140] 140 #[v, .slice (some ⟨b, 0, none⟩) 1 1]).run Tryd.prog w = .ok v' w' ∧ OwS w' B v' (M ++ [p]) ∧ w.grownBy w' v.ownBlock ∧ (v'.ownBlock = v.ownBlock ∨ v'.ownBlock = some w.heap.size) := by
  obtain ⟨i0, z, hinf, hs, hby, hz, hcc⟩ := str_info
  obtain ⟨v', w', h1, h2, h3, -, h4⟩ := run_append_own_at (P := Tryd.prog) w B 140 140 9 i0 z 1 i0.bytes Tryd.underlying140 hinf hz hs rfl (by rw [hcc]; rfl) (by omega) v M.length (M.map Value.string) hown ⟨b, 0, none⟩ 1 1 [.string p] rfl
    (fun j u hj => by
      rw [radd_flatE, Nat.zero_add]
      simp [World.cell?, hb, hj]) (by
      intro u hu
      simp at hu
      subst hu
      rfl) (by unfold maxLen; omega) (by
      have : (M.length + 1) * i0.bytes ≤ 1000000001 * 128 := Nat.mul_le_mul (by omega) hby
      omega) hB
  refine ⟨v', w', h1, ?_, h3, h4⟩
  unfold OwS
  rw [List.length_append, List.map_append]
  simpa using h2
theorem OwS.kept {X Y : World} {row : Option Nat} {B : Nat} {v : Value} {l : List ByteArray} (h : OwS X B v l) (hg : X.grownBy Y row) (hr : ∀ r, row = some r → ∃ o : Obj, X.heap[r]? = some o ∧ o.isCells = false) : OwS Y B v l := by
  rcases h.2 with ⟨e1, e2⟩ | ⟨g, cap, cur, e1, e2, e3, e4⟩
  · exact ⟨h.1, .inl ⟨e1, e2⟩⟩
  · exact ⟨h.1, .inr ⟨g, cap, cur, e1, e2, blk_kept e3 rfl hg hr, e4⟩⟩
theorem keepsFrom_ownS {B n : Nat} {v : Value} {l : List ByteArray} {X Y : World} (h : OwS X n v l) (hg : X.grownBy Y v.ownBlock) : KeepsFrom B X Y := ⟨hg.size, fun k o h1 h2 h3 => by
  refine (hg.block k (Array.getElem?_eq_some_iff.1 h2).1 (fun e => ?_)).trans h2
  rcases h.2 with ⟨e1, e2⟩ | ⟨g, cap, cur, e1, e2, e3, e4⟩
  · rw [e1] at e; cases e
  · rw [e1] at e
    cases e
    rw [e3] at h2
    cases h2
    cases h3⟩
/-- Within Differ: the list so far, in a box. -/
structure MS (w : World) (n q : Nat) (l : List ByteArray) (v : Value) (X : World) : Prop where
  bl : Below w.heap.size w X
  lo : w.heap.size ≤ q
  ln : w.heap.size ≤ n
  sz : n ≤ X.heap.size
  bx : Boxed X q 140 v
  ow : OwS X n v l
  ne : v.ownBlock ≠ some q
theorem MS.own {w : World} {n q : Nat} {l : List ByteArray} {v : Value} {B : Nat} (hB : w.heap.size ≤ B) : OwnFrom (β := Unit) B (fun _ X => MS w n q l v X) := fun s X Y row h hg hr => by
  have hr' : ∀ r, row = some r → ∃ o : Obj, X.heap[r]? = some o ∧ o.isCells = false := fun r e => (hr r e).2
  exact ⟨ownFrom_below (β := Unit) (Nat.le_refl _) hB s X Y row h.bl hg hr, h.lo, h.ln, Nat.le_trans h.sz hg.size, boxed_own (β := Unit) _ _ (fun _ => _) s X Y row h.bx hg hr', h.ow.kept hg hr', h.ne⟩
theorem MS.ext {w : World} {n q : Nat} {l : List ByteArray} {v : Value} {X Y : World} (h : MS w n q l v X) (hx : Ext X Y) : MS w n q l v Y :=
  ⟨h.bl.trans (hx.below.mono h.bl.size), h.lo, h.ln, Nat.le_trans h.sz hx.below.size, (hx.below.block _ h.bx.lt).trans h.bx, h.ow.ext hx, h.ne⟩
theorem MS.own_lt {w : World} {n q : Nat} {l : List ByteArray} {v : Value} {X : World} (h : MS w n q l v X) : ∀ g, v.ownBlock = some g → g < X.heap.size := fun g e => (World.ownsRow.lt h.ow g e).2
theorem MS.other {w : World} {n q : Nat} {l : List ByteArray} {v : Value} {X : World} (h : MS w n q l v X) {B : Nat} (hB : q < B) (hv : ∀ g, v.ownBlock = some g → g < B) {o : Nat} {u : Value} : MS w n q l v (X.setCell ⟨B, o, none⟩ u) :=
  have hlo := h.lo
  have hx : Xl [B] X (X.setCell ⟨B, o, none⟩ u) := (Xl.refl X).set (by simp)
  ⟨h.bl.setCell (p := ⟨B, o, none⟩) (Nat.le_trans hlo (Nat.le_of_lt hB)) _, h.lo, h.ln, Nat.le_trans h.sz hx.size, (Below.heap_setCell _ _ _ _ (by rintro rfl; exact Nat.lt_irrefl _ hB)).trans h.bx, h.ow.xl hx (fun g e hm => by have := hv g e; simp at hm; omega), h.ne⟩
theorem MS.app {w : World} {n q : Nat} {l : List ByteArray} {v v' : Value} {X Y Z : World} {e : ByteArray} (h : MS w n q l v X) (hx : Ext X Y) (hg : Y.grownBy Z v.ownBlock) (ho : OwS Z n v' (l ++ [e])) (hob : v'.ownBlock = v.ownBlock ∨ v'.ownBlock = some Y.heap.size) :
    MS w n q (l ++ [e]) v' (Z.setCell ⟨q, 0, none⟩ v') ∧ Boxed Z q 140 v ∧ KeepsFrom n X (Z.setCell ⟨q, 0, none⟩ v') ∧ BelowX n [q] X (Z.setCell ⟨q, 0, none⟩ v') := by
  have hy := h.ext hx
  have hln := h.ln
  have hbx : Boxed Z q 140 v := (hg.block q hy.bx.lt (fun e => h.ne e.symm)).trans hy.bx
  have hne : v'.ownBlock ≠ some q := by
    rcases hob with e | e
    · rw [e]; exact h.ne
    · rw [e]; intro e'; cases e'; exact Nat.lt_irrefl _ hy.bx.lt
  have hlow : Below w.heap.size w Z := by
    have hsz := hy.bl.size
    refine ⟨hg.os.trans hy.bl.os, hg.tape.trans hy.bl.tape, hg.output.trans hy.bl.output, Nat.le_trans hsz hg.size, fun k hk => ?_⟩
    refine (hg.block k (by omega) (fun e => ?_)).trans (hy.bl.block k hk)
    have := (World.ownsRow.lt hy.ow k e.symm).1
    omega
  have hx2 : Xl [q] Z (Z.setCell ⟨q, 0, none⟩ v') := (Xl.refl Z).set (by simp)
  refine ⟨⟨hlow.setCell h.lo _, h.lo, h.ln, Nat.le_trans (Nat.le_trans hy.sz hg.size) hx2.size, hbx.set _, ho.xl hx2 (fun g e hm => hne (by simp at hm; rw [e, hm])), hne⟩, hbx, ((keepsFrom_ext hx).trans (keepsFrom_ownS hy.ow hg)).trans ((KeepsOthers.setCell _ _ _).from _), ?_⟩
  have h1 : BelowX n [q] X Y := .ofXl (Xl.of hx) h.sz
  have h2 : BelowX n [q] Y Z := ⟨hg.os, hg.tape, hg.output, hg.size, fun k hk hn => hg.block k (Nat.lt_of_lt_of_le hk hy.sz) (fun e => by have := (World.ownsRow.lt hy.ow k e.symm).1; omega)⟩
  exact (h1.trans h2).setCell (.inr (by simp))
def vEq (p : Ent × Ent) : Bool := decide (p.1.ctr = p.2.ctr ∧ p.1.node = p.2.node)
def dKey (p : Ent × Ent) : ByteArray := (if thereE p.1 = true then p.1 else p.2).key
def difL (ps : List (Ent × Ent)) : List ByteArray := (ps.filter (fun p => !vEq p)).map dKey
theorem difL_snoc (ps : List (Ent × Ent)) (p : Ent × Ent) : difL (ps ++ [p]) = if vEq p = true then difL ps else difL ps ++ [dKey p] := by
  unfold difL
  rw [List.filter_append, List.map_append]
  rcases h : vEq p with _ | _ <;> simp [h]
def difR (a b : List Ent) : List ByteArray := if chk2 a b = 0 then difL (prs a b) else []
theorem difL_len (ps : List (Ent × Ent)) : (difL ps).length ≤ ps.length := by
  unfold difL
  rw [List.length_map]
  exact List.length_filter_le _ _
end Go.Proofs.YtokcgnbjkbhmiaaDoor
