/- The pieces of which a fold is made, behind one another in a row of the call's own. (One of three instances.) -/
import Derived.Test.YtgglbohcnlcagaaTF1
import Derived.Test.YtgglbohcnlcagaaTR
import Derived.Test.YtgglbohcnlcagaaRowT
import Derived.Maps.AppendAt
namespace Go.Proofs.Ytgglbohcnlcagaa
open Go.RowKit
set_option maxHeartbeats 2000000
set_option maxRecDepth 100000
set_option linter.unusedSimpArgs false
set_option linter.unusedVariables false
theorem en_Tpieces1 : Enters Try.prog 90 := ⟨_, Try.func90, by kernel_rfl, rfl⟩

def cS1 (s : S1) : List Value := [.int .u64 s.1, .int .u64 s.2]
theorem cS1_len (s : S1) : (cS1 s).length = 2 := rfl
theorem flat1_len : ∀ l : List S1, (l.flatMap cS1).length = l.length * 2
  | [] => rfl
  | a :: l => by rw [List.flatMap_cons, List.length_append, cS1_len, flat1_len l, List.length_cons, Nat.add_mul]; omega
theorem s1_info : ∃ i z, Try.prog.info? 62 = some i ∧ i.size = 2 ∧ i.bytes = 16 ∧ i.zero = some z ∧ z.cells.size = 2 := ⟨_, _, rfl, rfl, rfl, rfl, rfl⟩
/-- A row of summaries of the call's own. -/
def OwnS1 (w : World) (B : Nat) (v : Value) (L : List S1) : Prop := w.ownsRow B 62 2 v L.length (L.flatMap cS1)
theorem tadd_flat {b o j : Nat} : (⟨b, o, none⟩ : Addr).add j = ⟨b, o + j, none⟩ := by
  unfold Addr.add
  split
  · rename_i h; subst h; rfl
  · rfl
theorem append1_one {w : World} {B : Nat} {v : Value} {L : List S1} (hown : OwnS1 w B v L) {b c : Nat} {s : S1} (hc : ∀ j u, (cS1 s)[j]? = some u → w.cell? ⟨b, j, none⟩ = some u) (hn : L.length + 1 ≤ 4398046511104) (hB : B ≤ w.heap.size) :
    ∃ v' w', (Builtin.append_ #[137, 137] 137 #[v, .slice (some ⟨b, 0, none⟩) 1 c]).run Try.prog w = .ok v' w' ∧ OwnS1 w' B v' (L ++ [s]) ∧ w.grownBy w' v.ownBlock := by
  obtain ⟨i, z, hinf, hs, hby, hz, hcc⟩ := s1_info
  obtain ⟨v', w', h1, h2, h3, h4, h5⟩ := run_append_own_at (P := Try.prog) w B 137 137 62 i z 2 16 Try.underlying137 hinf hz hs hby hcc (by omega) v L.length (L.flatMap cS1) hown ⟨b, 0, none⟩ 1 c (cS1 s) rfl
    (fun j u hj => by rw [tadd_flat, Nat.zero_add]; exact hc j u hj)
    (by intro u hu; simp [cS1] at hu; first | (rcases hu with rfl | rfl <;> rfl) | (subst hu; rfl)) (by unfold maxLen; omega) (by omega) hB
  refine ⟨v', w', h1, ?_, h3⟩
  unfold OwnS1
  rw [List.length_append, List.flatMap_append]
  simpa using h2
attribute [-go_sem] Builtin.append_

def Pieced1 (w0 : World) (L : List S1) (e : Ending) (w' : World) : Prop := ∃ v', e = .returned v' ∧ OwnS1 w' w0.heap.size v' L ∧ Ext w0 w'
theorem pieces1_any {Sp : Option Nat} {J : S1 → S1 → S1} {z : S1} {w0 : World} : ∀ (T : T1) {pv : Value}, IsTree1 Sp J z w0 pv T → T.size ≤ 4398046511104 → ∀ (i j : Int), 0 ≤ i → i ≤ 9223372036854775807 → -9223372036854775808 ≤ j → j ≤ 9223372036854775807 →
    ∀ {v : Value} {L : List S1} {w : World}, Ext w0 w → OwnS1 w w0.heap.size v L → L.length + T.size ≤ 4398046511104 →
    Calls Try.prog 90 #[pv, .int .i64 i, .int .i64 j, v] w (Pieced1 w0 (L ++ T.pieces J z i j))
  | .nil, pv, h, hsz, i, j, hi0, hi1, hj0, hj1, v, L, w, hx, ho, hn => by
    cases h
    have HO2 := hid_mk ho
    have HX := hid_mk hx
    obtain ⟨a, c, rfl⟩ := own_form ho
    clear ho hx
    go_enter Try.func90, Try.ntmps90
    go_wp2
    go_ret
    refine ⟨_, rfl, ?_, HX.out⟩
    rw [show (Tr.nil : T1).pieces J z i j = [] from rfl, List.append_nil]
    exact HO2.out
  | .node l k v' s r, pv, h, hsz, i, j, hi0, hi1, hj0, hj1, v, L, w, hx, ho, hn => by
    obtain ⟨b, p1, p2, rfl, hbn, hN, h1, h2⟩ := h
    have HO2 := hid_mk ho
    have HX := hid_mk hx
    have HNN := hid_mk hN
    obtain ⟨a, c, rfl⟩ := own_form ho
    obtain ⟨c0, c1, c2, c3, c4, c5, c6, c7, c8, c9⟩ := (hN.xt (Xt.of hx : Xt Sp w0 w) hbn)
    have hblt := cell_lt c0
    have H1 := hid_mk h1
    have H2 := hid_mk h2
    have hnn : L.length + (l.size + 1 + r.size) ≤ 4398046511104 := hn
    have HN := hid_mk hnn
    clear ho hx hN h1 h2 hsz hn hnn
    generalize hsm : (Tr.node l k v' s r).sum J z = sm at *
    have HSM := hid_mk hsm
    clear hsm
    generalize hszz : (Tr.node l k v' s r).size = sz at *
    have HSZ := hid_mk hszz
    clear hszz
    by_cases q1 : j ≤ i
    · have hp : (Tr.node l k v' s r).pieces J z i j = [] := by rw [Tr.pieces, if_pos q1]
      rw [hp, List.append_nil]
      clear hp
      go_enter Try.func90, Try.ntmps90
      go_wp2
      go_ret
      exact ⟨_, rfl, HO2.out, HX.out⟩
    · by_cases q2 : i ≤ 0 ∧ (sz : Int) ≤ j
      · have hp : (Tr.node l k v' s r).pieces J z i j = [sm] := by rw [Tr.pieces, if_neg q1, if_pos (by rw [HSZ.out]; exact q2), HSM.out]
        rw [hp]
        clear hp
        obtain ⟨q2a, q2b⟩ := q2
        obtain ⟨va, wa, hrun, hoa, hga⟩ := append1_one (w := w.alloc (.cells (List.toArray [Value.int .u64 sm.1, Value.int .u64 sm.2]) 62)) (own_ext HO2.out ((Ext.refl w).alloc _)) (b := w.heap.size) (c := 1) (s := sm) (by intro j u hu; rcases j with _ | _ | j <;> simp [cS1] at hu <;> subst hu <;> go_simp) (by have := HN.out; omega) (by have := HX.out.below.size; simp; omega)
        have HOA := hid_mk hoa
        have HXA := hid_mk (ext_grown (HX.out.alloc _) hga (own_ext HO2.out ((Ext.refl w).alloc _)) (Nat.le_refl _))
        clear hoa hga
        go_enter Try.func90, Try.ntmps90
        go_wp2
        go_ret
        exact ⟨_, rfl, HOA.out, HXA.out⟩
      · have hp : (Tr.node l k v' s r).pieces J z i j = l.pieces J z i (min j l.size) ++ (if i ≤ l.size ∧ (l.size : Int) < j then [s] else []) ++ r.pieces J z (max (i - l.size - 1) 0) (j - l.size - 1) := by
          rw [Tr.pieces, if_neg q1, if_neg (by rw [HSZ.out]; exact q2)]
        have HP := hid_mk hp
        generalize (Tr.node l k v' s r).pieces J z i j = PP at *
        clear hp
        have e1 : IntKind.i64.wrap ((l.size : Int) + 1) = (l.size : Int) + 1 := by have := HN.out; rw [IntKind.wrap_i64]; omega
        have hsplit : ∀ G : Prop, (0 < i → G) → (i ≤ 0 → j < (sz : Int) → G) → G := fun G g1 g2 => by
          by_cases h : i ≤ 0
          · exact g2 h (by omega)
          · exact g1 (by omega)
        have Q1 := hid_mk (show i < j by omega)
        clear q2
        go_enter Try.func90, Try.ntmps90
        refine hsplit _ (fun g1 => ?_) (fun g1 g2 => ?_)
        all_goals clear hsplit
        all_goals go_wp2_with fail
        all_goals refine (many1_any (H1.out.xt (Xt.of HX.out))).mono ?_
        all_goals rintro e w1 ⟨rfl, rfl⟩
        all_goals go_wp2_with fail
        all_goals refine (pieces1_any l H1.out (by have := HN.out; omega) i _ hi0 hi1 (by omega) (by omega) HX.out HO2.out (by have := HN.out; omega)).mono ?_
        all_goals rintro e w1 ⟨v1, rfl, ho1, hx1⟩
        all_goals have HO1 := hid_mk (show OwnS1 w1 w0.heap.size v1 (L ++ l.pieces J z i (min j l.size)) by first | (rw [show min j (l.size : Int) = j by omega]; exact ho1) | (rw [show min j (l.size : Int) = l.size by omega]; exact ho1))
        all_goals have HX1 := hid_mk hx1
        all_goals clear ho1 hx1 c0 c1 c2 c3 c4 c5 c6 c7 c8 c9 hblt
        all_goals generalize hP1 : l.pieces J z i (min j l.size) = P1 at *
        all_goals have HP1 := hid_mk (show P1.length ≤ l.size by rw [← hP1]; exact Tr.pieces_le _ _ _ _ _)
        all_goals have HPE := hid_mk hP1
        all_goals clear hP1
        all_goals obtain ⟨c0, c1, c2, c3, c4, c5, c6, c7, c8, c9⟩ := (HNN.out.xt (Xt.of HX1.out : Xt Sp w0 w1) hbn)
        all_goals have hblt := cell_lt c0
        all_goals obtain ⟨L1, hL1⟩ : ∃ L1, L ++ P1 = L1 := ⟨_, rfl⟩
        all_goals have HLL := hid_mk (show L1.length ≤ L.length + l.size by rw [← hL1, List.length_append]; have := HP1.out; omega)
        all_goals have HL1 := hid_mk hL1
        all_goals rw [hL1] at HO1
        all_goals clear hL1
        all_goals have hfm := own_form HO1.out
        all_goals obtain ⟨a1, cc1, rfl⟩ := hfm
        all_goals have e3 : IntKind.i64.wrap (i - (l.size : Int)) = i - (l.size : Int) := by have := HN.out; rw [IntKind.wrap_i64]; omega
        all_goals have e4 : IntKind.i64.wrap (i - (l.size : Int) - 1) = i - (l.size : Int) - 1 := by have := HN.out; rw [IntKind.wrap_i64]; omega
        all_goals have e5 : IntKind.i64.wrap (j - (l.size : Int)) = j - (l.size : Int) := by have := HN.out; rw [IntKind.wrap_i64]; omega
        all_goals have e6 : IntKind.i64.wrap (j - (l.size : Int) - 1) = j - (l.size : Int) - 1 := by have := HN.out; rw [IntKind.wrap_i64]; omega
        all_goals (
          by_cases q4 : i ≤ (l.size : Int) ∧ (l.size : Int) < j
          · first
              | (exfalso; omega)
              | (
                have HQ4 := hid_mk q4
                obtain ⟨q4a, q4b⟩ := q4
                obtain ⟨va, wa, hrun, hoa, hga⟩ := append1_one (w := w1.alloc (.cells (List.toArray [Value.int .u64 s.1, Value.int .u64 s.2]) 62)) (own_ext HO1.out ((Ext.refl w1).alloc _)) (b := w1.heap.size) (c := 1) (s := s) (by intro j u hu; rcases j with _ | _ | j <;> simp [cS1] at hu <;> subst hu <;> go_simp) (by have := HN.out; have := HLL.out; omega) (by have := HX1.out.below.size; simp; omega)
                have HXA := hid_mk (ext_grown (HX1.out.alloc _) hga (own_ext HO1.out ((Ext.refl w1).alloc _)) (Nat.le_refl _))
                have HOA := hid_mk hoa
                obtain ⟨d0, d1, d2, d3, d4, d5, d6, d7, d8, d9⟩ := (HNN.out.xt (Xt.of HXA.out : Xt Sp w0 wa) hbn)
                obtain ⟨L2, hL2⟩ : ∃ L2, L1 ++ [s] = L2 := ⟨_, rfl⟩
                have HLM := hid_mk (show L2.length ≤ L.length + l.size + 1 by rw [← hL2, List.length_append]; have := HLL.out; simp; omega)
                have HL2 := hid_mk hL2
                rw [hL2] at hoa HOA
                clear hL2
                have hfa := own_form hoa
                obtain ⟨aa, ca, rfl⟩ := hfa
                clear hoa hga
                go_wp2_with fail
                all_goals refine (pieces1_any r H2.out (by have := HN.out; omega) _ _ (by have := Q1.out; have := HN.out; omega) (by have := Q1.out; have := HN.out; omega) (by have := Q1.out; have := HN.out; omega) (by have := Q1.out; have := HN.out; omega) HXA.out HOA.out (by have := HN.out; have := HLM.out; omega)).mono ?_
                all_goals rintro e w2 ⟨v2, rfl, ho2, hx2⟩
                all_goals have HO3 := hid_mk (show OwnS1 w2 w0.heap.size v2 (L ++ (P1 ++ [s] ++ r.pieces J z (max (i - l.size - 1) 0) (j - l.size - 1))) by first | (rw [show max (i - (l.size : Int) - 1) 0 = 0 by omega]; rw [← HL2.out, ← HL1.out] at ho2; simpa only [List.append_assoc] using ho2) | (rw [show max (i - (l.size : Int) - 1) 0 = i - l.size - 1 by omega]; rw [← HL2.out, ← HL1.out] at ho2; simpa only [List.append_assoc] using ho2))
                all_goals have HX3 := hid_mk hx2
                all_goals clear ho2 hx2
                all_goals go_wp2
                all_goals go_ret
                all_goals exact ⟨_, rfl, by rw [HP.out, if_pos HQ4.out]; exact HO3.out, HX3.out⟩)
          · have HQ4 := hid_mk q4
            have hsp2 : ∀ G : Prop, ((l.size : Int) < i → G) → (i ≤ (l.size : Int) → ¬ (l.size : Int) < j → G) → G := fun G g1 g2 => by
              by_cases h : i ≤ (l.size : Int)
              · exact g2 h (by omega)
              · exact g1 (by omega)
            clear q4
            refine hsp2 _ (fun g3 => ?_) (fun g3 g4 => ?_)
            all_goals clear hsp2
            all_goals try (exfalso; omega)
            all_goals go_wp2_with fail
            all_goals refine (pieces1_any r H2.out (by have := HN.out; omega) _ _ (by have := Q1.out; have := HN.out; omega) (by have := Q1.out; have := HN.out; omega) (by have := Q1.out; have := HN.out; omega) (by have := Q1.out; have := HN.out; omega) HX1.out HO1.out (by have := HN.out; have := HLL.out; omega)).mono ?_
            all_goals rintro e w2 ⟨v2, rfl, ho2, hx2⟩
            all_goals have HO3 := hid_mk (show OwnS1 w2 w0.heap.size v2 (L ++ (P1 ++ [] ++ r.pieces J z (max (i - l.size - 1) 0) (j - l.size - 1))) by first | (rw [show max (i - (l.size : Int) - 1) 0 = 0 by omega]; rw [← HL1.out] at ho2; simpa only [List.append_assoc, List.nil_append] using ho2) | (rw [show max (i - (l.size : Int) - 1) 0 = i - l.size - 1 by omega]; rw [← HL1.out] at ho2; simpa only [List.append_assoc, List.nil_append] using ho2))
            all_goals have HX3 := hid_mk hx2
            all_goals clear ho2 hx2
            all_goals go_wp2
            all_goals go_ret
            all_goals exact ⟨_, rfl, by rw [HP.out, if_neg HQ4.out]; exact HO3.out, HX3.out⟩)
end Go.Proofs.Ytgglbohcnlcagaa
