/- The pieces of which a fold is made, behind one another in a row of the call's own. (One of three instances.) What a tree in memory answers to Fold. (One of three instances.) -/
import Derived.Test.YtokcgnbjkbhmiaaDoorMTF4
import Derived.Test.YtokcgnbjkbhmiaaDoorMTP
import Derived.Test.YtokcgnbjkbhmiaaDoorRowT
import Derived.Maps.AppendAt
namespace Go.Proofs.YtokcgnbjkbhmiaaDoor
open Go.RowKit
set_option maxHeartbeats 2000000
set_option maxRecDepth 100000
set_option linter.unusedSimpArgs false
set_option linter.unusedVariables false
theorem en_Tpieces4 : Enters Tryd.prog 106 := ⟨_, Tryd.func106, by kernel_rfl, rfl⟩
def cS4 (s : S4) : List Value := [.int .i64 s.1, .int .u64 s.2.1, .int .u64 s.2.2]
theorem cS4_len (s : S4) : (cS4 s).length = 3 := rfl
theorem flat4_len : ∀ l : List S4, (l.flatMap cS4).length = l.length * 3
  | [] => rfl
  | a :: l => by rw [List.flatMap_cons, List.length_append, cS4_len, flat4_len l, List.length_cons, Nat.add_mul]; omega
theorem s4_info : ∃ i z, Tryd.prog.info? 32 = some i ∧ i.size = 3 ∧ i.bytes = 24 ∧ i.zero = some z ∧ z.cells.size = 3 := ⟨_, _, rfl, rfl, rfl, rfl, rfl⟩
/-- A row of summaries of the call's own. -/
def OwnS4 (w : World) (B : Nat) (v : Value) (L : List S4) : Prop := w.ownsRow B 32 3 v L.length (L.flatMap cS4)
theorem tadd_flat {b o j : Nat} : (⟨b, o, none⟩ : Addr).add j = ⟨b, o + j, none⟩ := by
  unfold Addr.add
  split
  · rename_i h; subst h; rfl
  · rfl
theorem append4_one {w : World} {B : Nat} {v : Value} {L : List S4} (hown : OwnS4 w B v L) {b c : Nat} {s : S4} (hc : ∀ j u, (cS4 s)[j]? = some u → w.cell? ⟨b, j, none⟩ = some u) (hn : L.length + 1 ≤ 4398046511104) (hB : B ≤ w.heap.size) :
    ∃ v' w', (Builtin.append_ #[172, 172] 172 #[v, .slice (some ⟨b, 0, none⟩) 1 c]).run Tryd.prog w = .ok v' w' ∧ OwnS4 w' B v' (L ++ [s]) ∧ w.grownBy w' v.ownBlock := by
  obtain ⟨i, z, hinf, hs, hby, hz, hcc⟩ := s4_info
  obtain ⟨v', w', h1, h2, h3, h4, h5⟩ := run_append_own_at (P := Tryd.prog) w B 172 172 32 i z 3 24 Tryd.underlying172 hinf hz hs hby hcc (by omega) v L.length (L.flatMap cS4) hown ⟨b, 0, none⟩ 1 c (cS4 s) rfl
    (fun j u hj => by rw [tadd_flat, Nat.zero_add]; exact hc j u hj)
    (by intro u hu; simp [cS4] at hu; first | (rcases hu with rfl | rfl | rfl <;> rfl) | (rcases hu with rfl | rfl <;> rfl) | (subst hu; rfl)) (by unfold maxLen; omega) (by omega) hB
  refine ⟨v', w', h1, ?_, h3⟩
  unfold OwnS4
  rw [List.length_append, List.flatMap_append]
  simpa using h2
attribute [-go_sem] Builtin.append_

def Pieced4 (w0 : World) (L : List S4) (e : Ending) (w' : World) : Prop := ∃ v', e = .returned v' ∧ OwnS4 w' w0.heap.size v' L ∧ Ext w0 w'
theorem pieces4_any {Sp : Option Nat} {J : S4 → S4 → S4} {z : S4} {w0 : World} : ∀ (T : T4) {pv : Value}, IsTree4 Sp J z w0 pv T → T.size ≤ 4398046511104 → ∀ (i j : Int), 0 ≤ i → i ≤ 9223372036854775807 → -9223372036854775808 ≤ j → j ≤ 9223372036854775807 →
    ∀ {v : Value} {L : List S4} {w : World}, Ext w0 w → OwnS4 w w0.heap.size v L → L.length + T.size ≤ 4398046511104 →
    Calls Tryd.prog 106 #[pv, .int .i64 i, .int .i64 j, v] w (Pieced4 w0 (L ++ T.pieces J z i j))
  | .nil, pv, h, hsz, i, j, hi0, hi1, hj0, hj1, v, L, w, hx, ho, hn => by
    cases h
    have HO2 := hid_mk ho
    have HX := hid_mk hx
    obtain ⟨a, c, rfl⟩ := own_form ho
    clear ho hx
    go_enter Tryd.func106, Tryd.ntmps106
    go_wp2
    go_ret
    refine ⟨_, rfl, ?_, HX.out⟩
    rw [show (Tr.nil : T4).pieces J z i j = [] from rfl, List.append_nil]
    exact HO2.out
  | .node l k v' s r, pv, h, hsz, i, j, hi0, hi1, hj0, hj1, v, L, w, hx, ho, hn => by
    obtain ⟨b, p1, p2, rfl, hbn, hN, h1, h2⟩ := h
    have HO2 := hid_mk ho
    have HX := hid_mk hx
    have HNN := hid_mk hN
    obtain ⟨a, c, rfl⟩ := own_form ho
    obtain ⟨c0, c1, c2, c3, c4, c5, c6, c7, c8, c9, c10, c11, c12, c13, c14, c15⟩ := (hN.xt (Xt.of hx : Xt Sp w0 w) hbn)
    have hblt := cell_lt c0
    have H1 := hid_mk h1
    have H2 := hid_mk h2
    have hnn : L.length + (l.size + 1 + r.size) ≤ 4398046511104 := hn
    have HN := hid_mk hnn
    clear ho hx hN h1 h2 hsz hn hnn
    generalize hsm : (Tr.node l k v' s r).sum J z = sm at *
    have HSM := hid_mk hsm
    clear hsm
    generalize hszz : (Tr.node l k v' s r).size = sz at *
    have HSZ := hid_mk hszz
    clear hszz
    by_cases q1 : j ≤ i
    · have hp : (Tr.node l k v' s r).pieces J z i j = [] := by rw [Tr.pieces, if_pos q1]
      rw [hp, List.append_nil]
      clear hp
      go_enter Tryd.func106, Tryd.ntmps106
      go_wp2
      go_ret
      exact ⟨_, rfl, HO2.out, HX.out⟩
    · by_cases q2 : i ≤ 0 ∧ (sz : Int) ≤ j
      · have hp : (Tr.node l k v' s r).pieces J z i j = [sm] := by rw [Tr.pieces, if_neg q1, if_pos (by rw [HSZ.out]; exact q2), HSM.out]
        rw [hp]
        clear hp
        obtain ⟨q2a, q2b⟩ := q2
        obtain ⟨va, wa, hrun, hoa, hga⟩ := append4_one (w := w.alloc (.cells (List.toArray [Value.int .i64 sm.1, Value.int .u64 sm.2.1, Value.int .u64 sm.2.2]) 32)) (own_ext HO2.out ((Ext.refl w).alloc _)) (b := w.heap.size) (c := 1) (s := sm) (by intro j u hu; rcases j with _ | _ | _ | j <;> simp [cS4] at hu <;> subst hu <;> go_simp) (by have := HN.out; omega) (by have := HX.out.below.size; simp; omega)
        have HOA := hid_mk hoa
        have HXA := hid_mk (ext_grown (HX.out.alloc _) hga (own_ext HO2.out ((Ext.refl w).alloc _)) (Nat.le_refl _))
        clear hoa hga
        go_enter Tryd.func106, Tryd.ntmps106
        go_wp2
        go_ret
        exact ⟨_, rfl, HOA.out, HXA.out⟩
      · have hp : (Tr.node l k v' s r).pieces J z i j = l.pieces J z i (min j l.size) ++ (if i ≤ l.size ∧ (l.size : Int) < j then [s] else []) ++ r.pieces J z (max (i - l.size - 1) 0) (j - l.size - 1) := by
          rw [Tr.pieces, if_neg q1, if_neg (by rw [HSZ.out]; exact q2)]
        have HP := hid_mk hp
        generalize (Tr.node l k v' s r).pieces J z i j = PP at *
        clear hp
        have e1 : IntKind.i64.wrap ((l.size : Int) + 1) = (l.size : Int) + 1 := by have := HN.out; rw [IntKind.wrap_i64]; omega
        have hsplit : ∀ G : Prop, (0 < i → G) → (i ≤ 0 → j < (sz : Int) → G) → G := fun G g1 g2 => by
          by_cases h : i ≤ 0
          · exact g2 h (by omega)
          · exact g1 (by omega)
        have Q1 := hid_mk (show i < j by omega)
        clear q2
        go_enter Tryd.func106, Tryd.ntmps106
        refine hsplit _ (fun g1 => ?_) (fun g1 g2 => ?_)
        all_goals clear hsplit
        all_goals go_wp2_with fail
        all_goals refine (many4_any (H1.out.xt (Xt.of HX.out))).mono ?_
        all_goals rintro e w1 ⟨rfl, rfl⟩
        all_goals go_wp2_with fail
        all_goals refine (pieces4_any l H1.out (by have := HN.out; omega) i _ hi0 hi1 (by omega) (by omega) HX.out HO2.out (by have := HN.out; omega)).mono ?_
        all_goals rintro e w1 ⟨v1, rfl, ho1, hx1⟩
        all_goals have HO1 := hid_mk (show OwnS4 w1 w0.heap.size v1 (L ++ l.pieces J z i (min j l.size)) by first | (rw [show min j (l.size : Int) = j by omega]; exact ho1) | (rw [show min j (l.size : Int) = l.size by omega]; exact ho1))
        all_goals have HX1 := hid_mk hx1
        all_goals clear ho1 hx1 c0 c1 c2 c3 c4 c5 c6 c7 c8 c9 c10 c11 c12 c13 c14 c15 hblt
        all_goals generalize hP1 : l.pieces J z i (min j l.size) = P1 at *
        all_goals have HP1 := hid_mk (show P1.length ≤ l.size by rw [← hP1]; exact Tr.pieces_le _ _ _ _ _)
        all_goals have HPE := hid_mk hP1
        all_goals clear hP1
        all_goals obtain ⟨c0, c1, c2, c3, c4, c5, c6, c7, c8, c9, c10, c11, c12, c13, c14, c15⟩ := (HNN.out.xt (Xt.of HX1.out : Xt Sp w0 w1) hbn)
        all_goals have hblt := cell_lt c0
        all_goals obtain ⟨L1, hL1⟩ : ∃ L1, L ++ P1 = L1 := ⟨_, rfl⟩
        all_goals have HLL := hid_mk (show L1.length ≤ L.length + l.size by rw [← hL1, List.length_append]; have := HP1.out; omega)
        all_goals have HL1 := hid_mk hL1
        all_goals rw [hL1] at HO1
        all_goals clear hL1
        all_goals have hfm := own_form HO1.out
        all_goals obtain ⟨a1, cc1, rfl⟩ := hfm
        all_goals have e3 : IntKind.i64.wrap (i - (l.size : Int)) = i - (l.size : Int) := by have := HN.out; rw [IntKind.wrap_i64]; omega
        all_goals have e4 : IntKind.i64.wrap (i - (l.size : Int) - 1) = i - (l.size : Int) - 1 := by have := HN.out; rw [IntKind.wrap_i64]; omega
        all_goals have e5 : IntKind.i64.wrap (j - (l.size : Int)) = j - (l.size : Int) := by have := HN.out; rw [IntKind.wrap_i64]; omega
        all_goals have e6 : IntKind.i64.wrap (j - (l.size : Int) - 1) = j - (l.size : Int) - 1 := by have := HN.out; rw [IntKind.wrap_i64]; omega
        all_goals (
          by_cases q4 : i ≤ (l.size : Int) ∧ (l.size : Int) < j
          · first
              | (exfalso; omega)
              | (
                have HQ4 := hid_mk q4
                obtain ⟨q4a, q4b⟩ := q4
                obtain ⟨va, wa, hrun, hoa, hga⟩ := append4_one (w := w1.alloc (.cells (List.toArray [Value.int .i64 s.1, Value.int .u64 s.2.1, Value.int .u64 s.2.2]) 32)) (own_ext HO1.out ((Ext.refl w1).alloc _)) (b := w1.heap.size) (c := 1) (s := s) (by intro j u hu; rcases j with _ | _ | _ | j <;> simp [cS4] at hu <;> subst hu <;> go_simp) (by have := HN.out; have := HLL.out; omega) (by have := HX1.out.below.size; simp; omega)
                have HXA := hid_mk (ext_grown (HX1.out.alloc _) hga (own_ext HO1.out ((Ext.refl w1).alloc _)) (Nat.le_refl _))
                have HOA := hid_mk hoa
                obtain ⟨d0, d1, d2, d3, d4, d5, d6, d7, d8, d9, d10, d11, d12, d13, d14, d15⟩ := (HNN.out.xt (Xt.of HXA.out : Xt Sp w0 wa) hbn)
                obtain ⟨L2, hL2⟩ : ∃ L2, L1 ++ [s] = L2 := ⟨_, rfl⟩
                have HLM := hid_mk (show L2.length ≤ L.length + l.size + 1 by rw [← hL2, List.length_append]; have := HLL.out; simp; omega)
                have HL2 := hid_mk hL2
                rw [hL2] at hoa HOA
                clear hL2
                have hfa := own_form hoa
                obtain ⟨aa, ca, rfl⟩ := hfa
                clear hoa hga
                go_wp2_with fail
                all_goals refine (pieces4_any r H2.out (by have := HN.out; omega) _ _ (by have := Q1.out; have := HN.out; omega) (by have := Q1.out; have := HN.out; omega) (by have := Q1.out; have := HN.out; omega) (by have := Q1.out; have := HN.out; omega) HXA.out HOA.out (by have := HN.out; have := HLM.out; omega)).mono ?_
                all_goals rintro e w2 ⟨v2, rfl, ho2, hx2⟩
                all_goals have HO3 := hid_mk (show OwnS4 w2 w0.heap.size v2 (L ++ (P1 ++ [s] ++ r.pieces J z (max (i - l.size - 1) 0) (j - l.size - 1))) by first | (rw [show max (i - (l.size : Int) - 1) 0 = 0 by omega]; rw [← HL2.out, ← HL1.out] at ho2; simpa only [List.append_assoc] using ho2) | (rw [show max (i - (l.size : Int) - 1) 0 = i - l.size - 1 by omega]; rw [← HL2.out, ← HL1.out] at ho2; simpa only [List.append_assoc] using ho2))
                all_goals have HX3 := hid_mk hx2
                all_goals clear ho2 hx2
                all_goals go_wp2
                all_goals go_ret
                all_goals exact ⟨_, rfl, by rw [HP.out, if_pos HQ4.out]; exact HO3.out, HX3.out⟩)
          · have HQ4 := hid_mk q4
            have hsp2 : ∀ G : Prop, ((l.size : Int) < i → G) → (i ≤ (l.size : Int) → ¬ (l.size : Int) < j → G) → G := fun G g1 g2 => by
              by_cases h : i ≤ (l.size : Int)
              · exact g2 h (by omega)
              · exact g1 (by omega)
            clear q4
            refine hsp2 _ (fun g3 => ?_) (fun g3 g4 => ?_)
            all_goals clear hsp2
            all_goals try (exfalso; omega)
            all_goals go_wp2_with fail
            all_goals refine (pieces4_any r H2.out (by have := HN.out; omega) _ _ (by have := Q1.out; have := HN.out; omega) (by have := Q1.out; have := HN.out; omega) (by have := Q1.out; have := HN.out; omega) (by have := Q1.out; have := HN.out; omega) HX1.out HO1.out (by have := HN.out; have := HLL.out; omega)).mono ?_
            all_goals rintro e w2 ⟨v2, rfl, ho2, hx2⟩
            all_goals have HO3 := hid_mk (show OwnS4 w2 w0.heap.size v2 (L ++ (P1 ++ [] ++ r.pieces J z (max (i - l.size - 1) 0) (j - l.size - 1))) by first | (rw [show max (i - (l.size : Int) - 1) 0 = 0 by omega]; rw [← HL1.out] at ho2; simpa only [List.append_assoc, List.nil_append] using ho2) | (rw [show max (i - (l.size : Int) - 1) 0 = i - l.size - 1 by omega]; rw [← HL1.out] at ho2; simpa only [List.append_assoc, List.nil_append] using ho2))
            all_goals have HX3 := hid_mk hx2
            all_goals clear ho2 hx2
            all_goals go_wp2
            all_goals go_ret
            all_goals exact ⟨_, rfl, by rw [HP.out, if_neg HQ4.out]; exact HO3.out, HX3.out⟩)
end Go.Proofs.YtokcgnbjkbhmiaaDoor
namespace Go.Proofs.YtokcgnbjkbhmiaaDoor
open Go.RowKit
set_option maxHeartbeats 2000000
set_option maxRecDepth 100000
set_option linter.unusedSimpArgs false
set_option linter.unusedVariables false
theorem en_TFold4 : Enters Tryd.prog 66 := ⟨_, Tryd.func66, by kernel_rfl, rfl⟩
attribute [-go_sem] Builtin.append_

theorem Ext.setT4 {w w' : World} (h : Ext w w') {b o : Nat} {u : Value} (hp : w.heap.size ≤ b) : Ext w (w'.setCell ⟨b, o, none⟩ u) := Ext.of (Below.setCell h.below hp u)
/-- The summaries of a row lie behind one another. -/
def RowC4 (w : World) (g : Nat) (P : List S4) : Prop := ∀ k, (h : k < P.length) → w.cell? ⟨g, k * 3, none⟩ = some (.int .i64 P[k].1) ∧ w.cell? ⟨g, k * 3 + 1, none⟩ = some (.int .u64 P[k].2.1) ∧ w.cell? ⟨g, k * 3 + 2, none⟩ = some (.int .u64 P[k].2.2)
theorem RowC4.xt {Sp : Option Nat} {w w' : World} {g : Nat} {P : List S4} (h : RowC4 w g P) (hx : Xt Sp w w') (hn : Sp ≠ some g) : RowC4 w' g P := fun k hk => ⟨hx.rd (h k hk).1 hn, hx.rd (h k hk).2.1 hn, hx.rd (h k hk).2.2 hn⟩
theorem own4_rowc {w : World} {B : Nat} {v : Value} {P : List S4} (h : OwnS4 w B v P) (hp : 0 < P.length) : ∃ g c, v = .slice (some ⟨g, 0, none⟩) P.length c ∧ B ≤ g ∧ RowC4 w g P := by
  obtain ⟨g, c, hv, hc⟩ := own_cell h hp
  refine ⟨g, c, hv, ?_, fun k hk => ?_⟩
  · rcases h.2 with ⟨h1, -⟩ | ⟨g', cap, cur, h1, h2, -⟩
    · rw [hv] at h1; cases h1
    · rw [hv] at h1; cases h1; exact h2
  · have k0 : ∀ r, r < 3 → ∀ u, (cS4 P[k])[r]? = some u → w.cell? ⟨g, k * 3 + r, none⟩ = some u := fun r hr u hu => hc _ _ ((flat_get cS4 3 (by omega) cS4_len P k hk r hr).trans hu)
    exact ⟨k0 0 (by omega) _ rfl, k0 1 (by omega) _ rfl, k0 2 (by omega) _ rfl⟩
/-- What a fold hands back. -/
def Folded4 (Sp : Option Nat) (K : Nat → World → Prop) (n : Nat) (J : S4 → S4 → S4) (zz : S4) (P : List S4) (w : World) (e : Ending) (w' : World) : Prop :=
  e = .returned (encS4 (foldP J zz P)) ∧ Xt Sp w w' ∧ K (n + (P.length - 1)) w'

/-- A variable of the call's own that holds a summary. -/
structure Box4 (w : World) (b : Nat) (x : S4) : Prop where
  c0 : w.cell? ⟨b, 0, none⟩ = some (.int .i64 x.1)
  c1 : w.cell? ⟨b, 1, none⟩ = some (.int .u64 x.2.1)
  c2 : w.cell? ⟨b, 2, none⟩ = some (.int .u64 x.2.2)
  f0 : w.frozen? ⟨b, 0, none⟩ = false
  f1 : w.frozen? ⟨b, 1, none⟩ = false
  f2 : w.frozen? ⟨b, 2, none⟩ = false
theorem Box4.xt {Sp : Option Nat} {w w' : World} {b : Nat} {x : S4} (h : Box4 w b x) (hx : Xt Sp w w') (hn : Sp ≠ some b) : Box4 w' b x := ⟨hx.rd h.c0 hn, hx.rd h.c1 hn, hx.rd h.c2 hn, hx.fz h.c0 hn h.f0, hx.fz h.c1 hn h.f1, hx.fz h.c2 hn h.f2⟩
/-- A summary is laid into a block. -/
abbrev lay4 (w : World) (b : Nat) (y : S4) : World := ((w.setCell ⟨b, 0, none⟩ (.int .i64 y.1)).setCell ⟨b, 1, none⟩ (.int .u64 y.2.1)).setCell ⟨b, 2, none⟩ (.int .u64 y.2.2)
theorem Box4.set {w : World} {b : Nat} {x y : S4} (h : Box4 w b x) : Box4 (lay4 w b y) b y :=
  ⟨(tset_neo (by decide)).trans ((tset_neo (by decide)).trans (tset_eq h.c0)), (tset_neo (by decide)).trans (tset_eq ((tset_neo (by decide)).trans h.c1)), tset_eq ((tset_neo (by decide)).trans ((tset_neo (by decide)).trans h.c2)), tset_fz (tset_fz (tset_fz h.f0)), tset_fz (tset_fz (tset_fz h.f1)), tset_fz (tset_fz (tset_fz h.f2))⟩
theorem Box4.off {w : World} {b q : Nat} {x y : S4} (h : Box4 w b x) (hq : b ≠ q) : Box4 (lay4 w q y) b x :=
  ⟨(tset_ne hq).trans ((tset_ne hq).trans ((tset_ne hq).trans h.c0)), (tset_ne hq).trans ((tset_ne hq).trans ((tset_ne hq).trans h.c1)), (tset_ne hq).trans ((tset_ne hq).trans ((tset_ne hq).trans h.c2)), tset_fz (tset_fz (tset_fz h.f0)), tset_fz (tset_fz (tset_fz h.f1)), tset_fz (tset_fz (tset_fz h.f2))⟩
theorem RowC4.off {w : World} {g q : Nat} {P : List S4} {y : S4} (h : RowC4 w g P) (hq : g ≠ q) : RowC4 (lay4 w q y) g P := fun k hk =>
  ⟨(tset_ne hq).trans ((tset_ne hq).trans ((tset_ne hq).trans (h k hk).1)), (tset_ne hq).trans ((tset_ne hq).trans ((tset_ne hq).trans (h k hk).2.1)), (tset_ne hq).trans ((tset_ne hq).trans ((tset_ne hq).trans (h k hk).2.2))⟩
theorem Enters.run4 {P : Program} {f : FuncId} (he : Enters P f) (args : Array Value) (w : World) : (callFunc f args).run P w = .ok (.enter f args) w := by
  obtain ⟨fn, hf, hname, hb⟩ := he
  have h1 : fn.name ≠ "runtime.NumGoroutine" := by simpa using hname
  obtain ⟨c, hc⟩ := Option.isSome_iff_exists.1 hb
  simp [callFunc, hf, h1, hc]
theorem gen_code4 {P : Program} {c : Code} {Q : Exit → Act → World → Prop} {a : Act} {w : World} (R : World → Prop) (h0 : R w) (h : ∀ W, R W → c.wp P Q a W) : c.wp P Q a w := h w h0
theorem fold4_any {Sp : Option Nat} {K : Nat → World → Prop} {g : S4 → Nat} {M : Nat} {J : S4 → S4 → S4} {f : FuncId} {caps : Array Value} {z : S4} (hJ : JoinOP Tryd.prog encS4 Sp K g M J f caps)
    {tb n : Nat} {zz : S4} {pv : Value} {T : T4} {w : World} (i j : Int) (hi : -9223372036854775808 ≤ i ∧ i ≤ 9223372036854775807) (hj : -9223372036854775808 ≤ j ∧ j ≤ 9223372036854775807)
    (ht : TreeAt4 w tb zz (.func (.func f) caps #[]) pv) (htn : Sp ≠ some tb) (h : IsTree4 Sp J z w pv T) (hk : K n w) (hsz : T.size ≤ 4398046511104) (hwt : T.wt g ≤ M) :
    Calls Tryd.prog 66 #[.pointer (some ⟨tb, 0, none⟩), .int .i64 i, .int .i64 j] w (Folded4 Sp K n J zz (T.pieces J z (max i 0) (min j T.size)) w) := by
  have HT := hid_mk ht
  have H := hid_mk h
  have HK := hid_mk hk
  obtain ⟨mi, hmi⟩ : ∃ mi : Int, (if i < 0 then (0 : Int) else i) = mi := ⟨_, rfl⟩
  obtain ⟨mj, hmj⟩ : ∃ mj : Int, (if (T.size : Int) < j then (T.size : Int) else j) = mj := ⟨_, rfl⟩
  have e1 : max i 0 = mi := by rw [← hmi]; split <;> omega
  have e2 : min j (T.size : Int) = mj := by rw [← hmj]; split <;> omega
  rw [e1, e2]
  have HB := hid_mk (show 0 ≤ mi ∧ mi ≤ 9223372036854775807 ∧ -9223372036854775808 ≤ mj ∧ mj ≤ 9223372036854775807 by omega)
  have HS := hid_mk hsz
  generalize hP : T.pieces J z mi mj = P
  have HPW := hid_mk (show (P.map g).sum ≤ M by rw [← hP]; exact Nat.le_trans (Tr.pieces_wt J z hJ.wtJ T mi mj) hwt)
  have HP := hid_mk hP
  obtain ⟨t0, t1, t2, t3, t4⟩ := ht
  have htblt := cell_lt t0
  have hfr := hJ.fresh hk
  have HFR := hid_mk hfr
  clear h hk e1 e2 hi hj hP hsz hwt hfr
  have HT0 := hid_mk HT.out
  go_enter Tryd.func66, Tryd.ntmps66
  go_wp2_with fail
  refine gen_code4 (fun W => Box4 W w.heap.size (0, 0, 0) ∧ Box4 W (w.heap.size + 1) zz ∧ Ext w W ∧ w.heap.size + 1 < W.heap.size) ⟨⟨by go_simp, by go_simp, by go_simp, by go_simp, by go_simp, by go_simp⟩, ⟨by go_simp, by go_simp, by go_simp, by go_simp, by go_simp, by go_simp⟩, by (repeat (first | exact Ext.refl _ | apply Ext.drew_left | apply Ext.drew | apply Ext.alloc | (refine Ext.setT1 ?_ (by simp)))), by simp⟩ ?_
  rintro W ⟨hb6, hb7, hxW, hltW⟩
  obtain ⟨q7, hq7⟩ : ∃ q7, w.heap.size + 1 = q7 := ⟨_, rfl⟩
  rw [hq7] at hb7 hltW
  simp only [hq7]
  have HQ7 := hid_mk hq7
  clear hq7
  have HB6 := hid_mk hb6
  have HB7 := hid_mk hb7
  have HXW := hid_mk hxW
  have HLT := hid_mk hltW
  clear hb6 hb7 hxW hltW
  replace HT := hid_mk (HT.out.xt (Xt.of HXW.out : Xt Sp w W) htn)
  replace H := hid_mk (H.out.xt (Xt.of HXW.out : Xt Sp w W))
  replace HK := hid_mk (hJ.kext HK.out HXW.out)
  clear t0 t1 t2 t3 t4 htblt
  obtain ⟨t0, t1, t2, t3, t4⟩ := HT.out
  have htblt := cell_lt t0
  refine wp_region_held_below (fun _ => true) (.quiet 0 (.quiet 1 (.quiet 2 (.quiet 3 (.quiet 4 (.quiet 5 (.quiet 6 (.quiet 7 (.quiet 8 (.quiet 9 (.quiet 12 (.alt 10 (.quiet 11 .done) .stop)))))))))))) (by kernel_rfl) (by kernel_rfl) (by intro c a w d v h; cases d <;> exact h) (fun ops HO => ?_)
  refine plan_read _ (hi_of HO rfl) rfl (fun w' hE => by (repeat (with_reducible replace hE := Ext.unD hE)); have hcE := hE.hc; clear hE; go_simp; rfl) ?_
  simp only [Act.put, List.setIfInBounds_toArray, List.set_cons_succ, List.set_cons_zero]
  refine plan_read _ (hi_of HO rfl) rfl (fun w' hE => by (repeat (with_reducible replace hE := Ext.unD hE)); have hcE := hE.hc; clear hE; go_simp; rfl) ?_
  simp only [Act.put, List.setIfInBounds_toArray, List.set_cons_succ, List.set_cons_zero]
  refine plan_read _ (hi_of HO rfl) rfl (fun w' hE => by (repeat (with_reducible replace hE := Ext.unD hE)); have hcE := hE.hc; clear hE; go_simp; rfl) ?_
  simp only [Act.put, List.setIfInBounds_toArray, List.set_cons_succ, List.set_cons_zero]
  refine plan_read _ (hi_of HO rfl) rfl (fun w' hE => by (repeat (with_reducible replace hE := Ext.unD hE)); have hcE := hE.hc; clear hE; go_simp; rfl) ?_
  simp only [Act.put, List.setIfInBounds_toArray, List.set_cons_succ, List.set_cons_zero]
  refine plan_read _ (hi_of HO rfl) rfl (fun w' hE => by (repeat (with_reducible replace hE := Ext.unD hE)); have hcE := hE.hc; clear hE; go_simp; rfl) ?_
  simp only [Act.put, List.setIfInBounds_toArray, List.set_cons_succ, List.set_cons_zero]
  refine plan_read _ (hi_of HO rfl) rfl (fun w' hE => by (repeat (with_reducible replace hE := Ext.unD hE)); have hcE := hE.hc; clear hE; go_simp; rfl) ?_
  simp only [Act.put, List.setIfInBounds_toArray, List.set_cons_succ, List.set_cons_zero]
  refine plan_read _ (hi_of HO rfl) rfl (fun w' hE => by (repeat (with_reducible replace hE := Ext.unD hE)); have hcE := hE.hc; clear hE; go_simp; rfl) ?_
  simp only [Act.put, List.setIfInBounds_toArray, List.set_cons_succ, List.set_cons_zero]
  refine plan_read _ (hi_of HO rfl) rfl (fun w' hE => by (repeat (with_reducible replace hE := Ext.unD hE)); have hcE := hE.hc; clear hE; go_simp; rfl) ?_
  simp only [Act.put, List.setIfInBounds_toArray, List.set_cons_succ, List.set_cons_zero]
  refine plan_pure _ en_TLen4 (hi_of HO rfl) rfl rfl (by go_simp; rfl) (fun w' hE => by exact len4_any (HT.out.xt (Xt.of (Ext.unD hE)) htn) (H.out.xt (Xt.of (Ext.unD hE)))) ?_
  simp only [Act.put, List.setIfInBounds_toArray, List.set_cons_succ, List.set_cons_zero]
  refine plan_read _ (hi_of HO rfl) rfl (fun w' hE => by (repeat (with_reducible replace hE := Ext.unD hE)); have hcE := hE.hc; clear hE; go_simp; rfl) ?_
  simp only [Act.put, List.setIfInBounds_toArray, List.set_cons_succ, List.set_cons_zero]
  refine plan_read _ (hi_of HO rfl) rfl (fun w' hE => by (repeat (with_reducible replace hE := Ext.unD hE)); have hcE := hE.hc; clear hE; go_simp; rfl) ?_
  simp only [Act.put, List.setIfInBounds_toArray, List.set_cons_succ, List.set_cons_zero]
  refine plan_call1 en_Tpieces4 (hi_of HO rfl) rfl rfl (by go_simp; rfl) (by exact (pieces4_any T H.out HS.out mi mj HB.out.1 HB.out.2.1 HB.out.2.2.1 HB.out.2.2.2 (by (repeat (first | exact Ext.refl _ | apply Ext.drew_left | apply Ext.drew | apply Ext.alloc))) (L := []) ⟨rfl, .inl ⟨rfl, rfl⟩⟩ (by have := HS.out; simp; omega))) ?_
  rintro e w2 ⟨v2, rfl, ho2, hx2⟩
  refine ⟨_, rfl, fun _ => hx2.drew_left, ?_⟩
  rw [List.nil_append, HP.out] at ho2
  have HO2 := hid_mk ho2
  have HX2 := hid_mk hx2
  have hfm := own_form ho2
  obtain ⟨a2, c2, rfl⟩ := hfm
  clear hx2 ho2
  simp only [Act.put, List.setIfInBounds_toArray, List.set_cons_succ, List.set_cons_zero]
  refine plan_read _ (hi_of HO rfl) rfl (fun w' hE => by (repeat (with_reducible replace hE := Ext.unD hE)); have hcE := hE.hc; clear hE; go_simp; rfl) ?_
  simp only [Act.put, List.setIfInBounds_toArray, List.set_cons_succ, List.set_cons_zero]
  refine plan_done ?fin101
  clear HO ops t0 t1 t2 t3 t4 htblt
  replace HK := hid_mk (hJ.kext HK.out HX2.out)
  have HTT := hid_mk (HT.out.xt (Xt.of HX2.out : Xt Sp W w2) htn)
  have HPL := hid_mk (show P.length ≤ 4398046511104 by rw [← HP.out]; exact Nat.le_trans (Tr.pieces_le _ _ _ _ _) HS.out)
  go_wp2
  have HX2W := hid_mk (Ext.trans _ _ _ HXW.out HX2.out)
  have HB6' := hid_mk (HB6.out.xt (Xt.of HX2.out : Xt Sp W w2) (HFR.out _ (Nat.le_refl _)))
  have HB7' := hid_mk (HB7.out.xt (Xt.of HX2.out : Xt Sp W w2) (HFR.out _ (by have := HQ7.out; omega)))
  obtain ⟨gg, hgg⟩ : ∃ gg, 0 < P.length → a2 = some ⟨gg, 0, none⟩ ∧ W.heap.size ≤ gg ∧ RowC4 w2 gg P := by
    by_cases hp : 0 < P.length
    · obtain ⟨gg, cc, ee, h1, h2⟩ := own4_rowc HO2.out hp
      cases ee
      exact ⟨gg, fun _ => ⟨rfl, h1, h2⟩⟩
    · exact ⟨0, fun h => absurd h hp⟩
  have HGG := hid_mk hgg
  clear hgg
  go_loopw [26] (fun c wr => ∃ m : Nat, m ≤ P.length ∧ c = .int .i64 (m : Int) ∧ Box4 wr w.heap.size (0, 0, 0) ∧ Box4 wr q7 (foldP J zz (P.take m)) ∧ (0 < P.length → RowC4 wr gg P) ∧ w2.heap.size ≤ wr.heap.size ∧ Xt Sp w wr ∧ K (n + (m - 1)) wr) (fun c _ => P.length - (intOf c).toNat)
  case atStart => exact ⟨0, Nat.zero_le _, rfl, HB6'.out, HB7'.out, fun h => (HGG.out h).2.2, Nat.le_refl _, Xt.of HX2W.out, HK.out⟩
  case round =>
    obtain ⟨m, hm, rfl, hb6, hb7, hrw, hsz, hxr, hkr⟩ := hrel
    have HXR := hid_mk hxr
    have HKR := hid_mk hkr
    have HB6r := hid_mk hb6
    have HB7r := hid_mk hb7
    have HRW := hid_mk hrw
    have HSZ := hid_mk hsz
    clear hxr hkr hrw hsz
    by_cases hlt : m < P.length
    · obtain ⟨rfl, hgB, -⟩ := HGG.out (by omega)
      have hfr6 : Sp ≠ some w.heap.size := HFR.out _ (Nat.le_refl _)
      have hfr7 : Sp ≠ some q7 := HFR.out _ (by have := HQ7.out; omega)
      have HG7 := hid_mk (show gg ≠ q7 by have := HLT.out; omega)
      have hgn : Sp ≠ some gg := HFR.out _ (by have := HLT.out; have := HQ7.out; omega)
      obtain ⟨r0, r1, r2⟩ := HRW.out (by omega) m hlt
      have hglt := cell_lt r0
      obtain ⟨s0, s1, s2, s3, s4, s5⟩ := hb7
      have hslt := cell_lt s0
      obtain ⟨t0, t1, t2, t3, t4⟩ := HT0.out.xt HXR.out htn
      have htblt := cell_lt t0
      have hm63 : (m : Int) < (P.length : Int) := by omega
      have hm0 : (0 : Int) ≤ (m : Int) := by omega
      have hw1 : IntKind.i64.wrap ((m : Int) + 1) = (m : Int) + 1 := by have := HPL.out; rw [IntKind.wrap_i64]; omega
      clear hb6
      by_cases hz : m = 0
      · subst hz
        go_wp2
        go_roundw
        case rel =>
          refine ⟨1, by omega, rfl, (HB6r.out.off (by have := HQ7.out; omega)).xt (Xt.of ((Ext.refl _).alloc _) : Xt Sp _ _) hfr6, ?_, fun h => ((HRW.out h).off HG7.out).xt (Xt.of ((Ext.refl _).alloc _) : Xt Sp _ _) hgn, by have := HSZ.out; simp [World.setCell]; omega,
            (((HXR.out.set (by have := HQ7.out; omega)).set (by have := HQ7.out; omega)).set (by have := HQ7.out; omega)).alloc _, hJ.kext (hJ.kset (hJ.kset (hJ.kset HKR.out hfr7) hfr7) hfr7) ((Ext.refl _).alloc _)⟩
          rw [foldP_one _ _ _ hlt]
          exact HB7r.out.set.xt (Xt.of ((Ext.refl _).alloc _) : Xt Sp _ _) hfr7
        case measure => simp [intOf]; omega
      · have hz' : ¬ ((m : Int) = 0) := by omega
        have hfrt : Sp ≠ some wr.heap.size := HFR.out _ (by have := HXR.out.size; omega)
        have HROOM := hid_mk (Nat.le_trans (foldP_room (z := zz) hJ.wtJ P m hlt (by omega)) HPW.out)
        have HTK := hid_mk (foldP_take J zz P m hlt (by omega))
        go_wp2_with fail
        refine wp_region_held_plan (Xt Sp) (fun i => i != 7) (.quiet 0 (.quiet 1 (.quiet 2 (.quiet 3 (.quiet 4 (.quiet 5 (.alt 6 (.alt 7 .done .stop) .stop))))))) (by kernel_rfl) (by kernel_rfl) Xt.refl Xt.trans (by intro c a w d v h; cases d <;> exact h) (fun ops HO => ?_)
        refine plan_read _ (hi_of HO rfl) rfl (fun w' hE => by (repeat (with_reducible replace hE := Xt.unD hE)); have hcE := hE.hc; clear hE; go_simp; rfl) ?_
        simp only [Act.put, List.setIfInBounds_toArray, List.set_cons_succ, List.set_cons_zero]
        refine plan_read _ (hi_of HO rfl) rfl (fun w' hE => by (repeat (with_reducible replace hE := Xt.unD hE)); have hcE := hE.hc; clear hE; go_simp; rfl) ?_
        simp only [Act.put, List.setIfInBounds_toArray, List.set_cons_succ, List.set_cons_zero]
        refine plan_read _ (hi_of HO rfl) rfl (fun w' hE => by (repeat (with_reducible replace hE := Xt.unD hE)); have hcE := hE.hc; clear hE; go_simp; rfl) ?_
        simp only [Act.put, List.setIfInBounds_toArray, List.set_cons_succ, List.set_cons_zero]
        refine plan_read _ (hi_of HO rfl) rfl (fun w' hE => by (repeat (with_reducible replace hE := Xt.unD hE)); have hcE := hE.hc; clear hE; go_simp; rfl) ?_
        simp only [Act.put, List.setIfInBounds_toArray, List.set_cons_succ, List.set_cons_zero]
        refine plan_read _ (hi_of HO rfl) rfl (fun w' hE => by (repeat (with_reducible replace hE := Xt.unD hE)); have hcE := hE.hc; clear hE; go_simp; rfl) ?_
        simp only [Act.put, List.setIfInBounds_toArray, List.set_cons_succ, List.set_cons_zero]
        refine plan_read _ (hi_of HO rfl) rfl (fun w' hE => by (repeat (with_reducible replace hE := Xt.unD hE)); have hcE := hE.hc; clear hE; go_simp; rfl) ?_
        simp only [Act.put, List.setIfInBounds_toArray, List.set_cons_succ, List.set_cons_zero]
        refine plan_callp1 hJ.enters (hi_of HO rfl) rfl rfl (by go_simp; rfl) (by go_simp; rfl) (by exact (hJ.call (foldP J zz (P.take m)) P[m] _ _ (hJ.kext HKR.out (by (repeat (first | exact Ext.refl _ | apply Ext.drew_left | apply Ext.drew | apply Ext.alloc)))) HROOM.out)) ?_
        rintro e v9 ⟨rfl, hx9, hk9⟩
        refine ⟨_, rfl, fun _ => hx9, ?_⟩
        have HX9 := hid_mk (Xt.trans wr _ _ (Xt.of (by (repeat (first | exact Ext.refl _ | apply Ext.drew_left | apply Ext.drew | apply Ext.alloc)))) hx9)
        have HK9 := hid_mk hk9
        obtain ⟨y0, y1, y2, y3, y4, y5⟩ := HB7r.out.xt HX9.out hfr7
        have hylt := cell_lt y0
        clear hx9 hk9
        simp only [Act.put, List.setIfInBounds_toArray, List.set_cons_succ, List.set_cons_zero]
        refine plan_loud1 (hi_of HO rfl) rfl ?_
        go_simp
        skip
        refine plan_done ?fin102
        go_wp2
        go_roundw
        case rel =>
          refine ⟨m + 1, by omega, by go_num, (HB6r.out.xt HX9.out hfr6).off (by have := HQ7.out; omega), ?_, fun h => ((HRW.out h).xt HX9.out hgn).off HG7.out, by have := HSZ.out; have := HX9.out.size; simp [World.setCell]; omega,
            (((Xt.trans _ _ _ HXR.out HX9.out).set (by have := HQ7.out; omega)).set (by have := HQ7.out; omega)).set (by have := HQ7.out; omega), kcast (hJ.kset (hJ.kset (hJ.kset HK9.out hfr7) hfr7) hfr7) (by omega)⟩
          rw [HTK.out]
          exact (HB7r.out.xt HX9.out hfr7).set
        case measure => simp [intOf]; omega
    · have hfr6 : Sp ≠ some w.heap.size := HFR.out _ (Nat.le_refl _)
      obtain rfl : m = P.length := by omega
      rw [List.take_length] at hb7 HB7r
      obtain ⟨s0, s1, s2, s3, s4, s5⟩ := hb7
      obtain ⟨u0, u1, u2, u3, u4, u5⟩ := hb6
      have hslt := cell_lt s0
      have hult := cell_lt u0
      go_wp2
      refine bodyPost_ret (v := .agg #[.int .i64 (foldP J zz P).1, .int .u64 (foldP J zz P).2.1, .int .u64 (foldP J zz P).2.2]) (by unfold results; rw [Tryd.results66]; go_simp) rfl ⟨rfl, ?_, ?_⟩
      · exact ((HXR.out.set (Nat.le_refl _)).set (Nat.le_refl _)).set (Nat.le_refl _)
      · exact hJ.kset (hJ.kset (hJ.kset HKR.out hfr6) hfr6) hfr6
end Go.Proofs.YtokcgnbjkbhmiaaDoor
