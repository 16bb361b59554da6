/- Ranges that rise: where none is empty and each ends ahead of the next one, the program says so. -/
import Derived.Test.YtgglbohcnlcagaaF3
import Derived.RangeFuncNested
import Derived.RangeFuncBound
import Derived.RangeFuncCalls
import Derived.RangeFuncLeaves
import Derived.Shelf.Abstract
import Derived.Shelf.RegionOpen
import Derived.WalkKit
import Derived.OwnWalkIn
import Derived.TacticsInMore
import Derived.RegionIn
import Derived.LoopNIn
import Derived.LoopIn
namespace Go.Proofs.Ytgglbohcnlcagaa
open Go.RowKit Go.Shelf
set_option maxHeartbeats 4000000
set_option maxRecDepth 100000
set_option linter.unusedSimpArgs false
set_option linter.unusedVariables false
attribute [local go_sem] Oper.semAt_some

structure Rng where
  lo : ByteArray
  hi : ByteArray
  op : Bool
structure RngAt (w : World) (b o : Nat) (r : Rng) : Prop where
  c0 : w.cell? ⟨b, o, none⟩ = some (.string r.lo)
  c1 : w.cell? ⟨b, o + 1, none⟩ = some (.string r.hi)
  c2 : w.cell? ⟨b, o + 2, none⟩ = some (.bool r.op)
theorem RngAt.ext {w w' : World} {b o : Nat} {r : Rng} (h : RngAt w b o r) (hx : Ext w w') : RngAt w' b o r := ⟨cell_ext hx h.c0, cell_ext hx h.c1, cell_ext hx h.c2⟩
/-- Ranges in memory. -/
def RngSl (w : World) (v : Value) (l : List Rng) : Prop :=
  ∃ a c, v = .slice a l.length c ∧ l.length ≤ 4611686018427387904 ∧ (0 < l.length → ∃ b o, a = some ⟨b, o, none⟩ ∧ ∀ i, (h : i < l.length) → RngAt w b (o + i * 3) l[i])
theorem RngSl.ext {w w' : World} {v : Value} {l : List Rng} (h : RngSl w v l) (hx : Ext w w') : RngSl w' v l := by
  obtain ⟨a, c, h1, h2, h3⟩ := h
  exact ⟨a, c, h1, h2, fun hp => let ⟨b, o, h5, h6⟩ := h3 hp; ⟨b, o, h5, fun i hi => (h6 i hi).ext hx⟩⟩
/-- Each ends ahead of the next one. -/
def Rises (l : List Rng) : Prop := ∀ i, (h : i + 1 < l.length) → l[i].op = false ∧ Op.bytesLess l[i + 1].lo.toList l[i].hi.toList = false
abbrev RPair := { x : Rng × Rng // x.1.op = false ∧ Op.bytesLess x.2.lo.toList x.1.hi.toList = false }
def encP (x : RPair) : Array Value := #[.agg #[.string x.1.1.lo, .string x.1.1.hi, .bool x.1.1.op], .agg #[.string x.1.2.lo, .string x.1.2.hi, .bool x.1.2.op]]

theorem grown_drew (w : World) (row : Option Nat) : w.grownBy w.drew row := ⟨rfl, rfl, rfl, Nat.le_refl _, fun _ _ _ => rfl⟩
theorem pairs1_in (F : Fence) (n : Nat) (hF : F.fn 109) (hro : F.round = none) (hn : 1 ≤ n) (lp Bs : Nat) (sv : Value) (l : List Rng) (J Jx : List RPair → World → Prop) (w : World)
    (hY : ∀ pre x W, J pre W → pre.length < l.length → YieldAt F (n - 1) Try.prog lp (encP x) W fun e W' =>
      (e = .returned (.bool true) ∧ J (pre ++ [x]) W' ∧ Below w.heap.size W W') ∨ (e = .returned (.bool false) ∧ Jx (pre ++ [x]) W'))
    (W : World) (hJa : AbidesFrom W.heap.size J) (hBs : w.cell? ⟨Bs, 0, none⟩ = some sv) (hs : RngSl w sv l) (hr : Rises l) (hW : Below w.heap.size w W) (h0 : J [] W) :
    CallsIn F n Try.prog 109 #[.func (.yield lp) #[] #[], .pointer (some ⟨Bs, 0, none⟩)] W fun e W' => (∃ v, e = .returned v) ∧
      ((∃ ys, True ∧ J ys W') ∨ (∃ pre, True ∧ Jx pre W')) := by
  obtain ⟨a, c, rfl, hl63, hcl⟩ := hs
  have HC := hid_mk hcl
  have HR := hid_mk hr
  have hBlt := cell_lt hBs
  clear hcl hr
  refine callsIn_of_wp Try.func109 rfl hF ?_ hro
  simp only [Try.ntmps109, List.size_toArray, List.length_cons, List.length_nil, Nat.reduceAdd, Nat.reduceSub, Array.replicate_succ, Array.replicate_zero, List.push_toArray, List.append_toArray, List.nil_append, List.cons_append]
  gi_wp2
  gi_loopw [3] (fun i wr => ∃ (k : Nat) (pre : List RPair), i = .int .i64 ((k + 1 : Nat) : Int) ∧ pre.length = k ∧ (k = 0 ∨ k < l.length) ∧ J pre wr ∧ Below w.heap.size w wr) (fun i _ => l.length + 1 - (intOf i).toNat)
  case atStart => exact ⟨0, [], rfl, rfl, Or.inl rfl, h0, hW⟩
  case round =>
    obtain ⟨k, pre, rfl, hpre, hk, hJs, hnx⟩ := hrel
    have hcb := (hnx.cell (p := ⟨Bs, 0, none⟩) hBlt).trans hBs
    by_cases hlt : k + 1 < l.length
    · obtain ⟨b, o, rfl, hcl⟩ := HC.out (by omega)
      have hA := (hcl k (by omega)).ext (Ext.of hnx)
      have hA' := (hcl (k + 1) hlt).ext (Ext.of hnx)
      have hbl := cell_lt hA.c0
      clear hcl
      obtain ⟨fn, tmps, assign, body, hy, hR⟩ := hY pre ⟨(l[k], l[k + 1]), (HR.out k hlt).1, (HR.out k hlt).2⟩ wr.drew (hJa _ _ _ none hJs (grown_drew _ _) (by simp)) (by omega)
      dsimp only [encP] at hy
      have hk1 : ((k : Int) + 1) < (l.length : Int) := by omega
      have hk2 : (k : Int) < (l.length : Int) := by omega
      have hk3 : (0 : Int) ≤ (k : Int) + 1 := by omega
      have hwk : IntKind.i64.wrap (k : Int) = (k : Int) := wrapN k (by omega)
      obtain ⟨a0, a1, a2⟩ := hA
      obtain ⟨b0, b1, b2⟩ := hA'
      gi_wp2
      refine wpIn_region_any (by kernel_rfl) ?_
      try (change wpAnyIn _ _ _ _ _ _ _ _ _ (World.drew _))
      refine wpAnyIn_take (i := 0) (v := _) hro rfl (by kernel_rfl) (by kernel_rfl) (by kernel_rfl) (fun _ _ _ h => h) ⟨Or.inl ⟨by rfl, fun _ => by go_simp; rfl⟩, fun _ => rfl⟩ ?_
      refine wpAnyIn_take (i := 2) (v := _) hro rfl (by kernel_rfl) (by kernel_rfl) (by kernel_rfl) (fun _ _ _ h => h) ⟨Or.inl ⟨by rfl, fun _ => by go_simp; rfl⟩, fun _ => rfl⟩ ?_
      refine wpAnyIn_take (i := 3) (v := _) hro rfl (by kernel_rfl) (by kernel_rfl) (by kernel_rfl) (fun _ _ _ h => h) ⟨Or.inl ⟨by rfl, fun _ => by go_simp; rfl⟩, fun _ => rfl⟩ ?_
      refine wpAnyIn_take (i := 7) (v := _) hro rfl (by kernel_rfl) (by kernel_rfl) (by kernel_rfl) (fun _ _ _ h => h) ⟨Or.inl ⟨by rfl, fun _ => by go_simp; rfl⟩, fun _ => rfl⟩ ?_
      refine wpAnyIn_ready (rs := [1, 6]) (by kernel_rfl) (by simp) ?_
      refine AllReadyIn.cons rfl (fun K hK => ?_) (AllReadyIn.cons rfl (fun K hK => ?_) AllReadyIn.nil)
      ·
        go_simp
        refine hK _ _ ?_
        clear hK K
        refine wpAnyIn_take (i := 4) (v := _) hro rfl (by kernel_rfl) (by kernel_rfl) (by kernel_rfl) (fun _ _ _ h => h) ⟨Or.inl ⟨by rfl, fun _ => by go_simp; rfl⟩, fun _ => rfl⟩ ?_
        refine wpAnyIn_ready (rs := [5, 6]) (by kernel_rfl) (by simp) ?_
        refine AllReadyIn.cons rfl (fun K hK => ?_) (AllReadyIn.cons rfl (fun K hK => ?_) AllReadyIn.nil)
        ·
          go_simp
          refine hK _ _ ?_
          clear hK K
          refine wpAnyIn_ready (rs := [6]) (by kernel_rfl) (by simp) ?_
          refine AllReadyIn.cons rfl (fun K hK => ?_) AllReadyIn.nil
          go_simp
          refine hK _ _ ?_
          clear hK K
          refine wpAnyIn_take (i := 8) (v := _) hro rfl (by kernel_rfl) (by kernel_rfl) (by kernel_rfl) (fun _ _ _ h => h) ⟨Or.inl ⟨by rfl, fun _ => by go_simp; rfl⟩, fun _ => rfl⟩ ?_
          refine wpAnyIn_ready (rs := [9]) (by kernel_rfl) (by simp) ?_
          refine AllReadyIn.cons rfl (fun K hK => ?_) AllReadyIn.nil
          go_simp
          refine hK _ _ ?_
          clear hK K
          refine wpAnyIn_ready (rs := [10]) (by kernel_rfl) (by simp) ?_
          refine AllReadyIn.cons rfl (fun K hK => ?_) AllReadyIn.nil
          go_simp
          refine hR.mono ?_
          rintro e W3 (⟨rfl, hJ3, hk3⟩ | ⟨rfl, hJx3⟩)
          all_goals refine hK _ _ ?_
          all_goals clear hK K
          all_goals refine wpAnyIn_ready (rs := [11]) (by kernel_rfl) (by simp) ?_
          all_goals refine AllReadyIn.cons rfl (fun K hK => ?_) AllReadyIn.nil
          all_goals go_simp
          all_goals refine hK _ _ ?_
          all_goals clear hK K
          all_goals refine wpAnyIn_done (by kernel_rfl) ?_ _
          all_goals gi_wp2
          · go_roundw
            case rel => exact ⟨k + 1, _, by go_num, by simp [hpre], Or.inr hlt, hJ3, hnx.trans ((Below.drew (Below.refl _ _)).trans hk3)⟩
            case measure => simp [intOf]; omega
          · refine bodyPost_ret (results_none rfl _ _ _) rfl ?_
            exact ⟨⟨_, rfl⟩, .inr ⟨_, trivial, hJx3⟩⟩
        ·
          go_simp
          refine hK _ _ ?_
          clear hK K
          refine wpAnyIn_take (i := 8) (v := _) hro rfl (by kernel_rfl) (by kernel_rfl) (by kernel_rfl) (fun _ _ _ h => h) ⟨Or.inl ⟨by rfl, fun _ => by go_simp; rfl⟩, fun _ => rfl⟩ ?_
          refine wpAnyIn_ready (rs := [5, 9]) (by kernel_rfl) (by simp) ?_
          refine AllReadyIn.cons rfl (fun K hK => ?_) (AllReadyIn.cons rfl (fun K hK => ?_) AllReadyIn.nil)
          ·
            go_simp
            refine hK _ _ ?_
            clear hK K
            refine wpAnyIn_ready (rs := [9]) (by kernel_rfl) (by simp) ?_
            refine AllReadyIn.cons rfl (fun K hK => ?_) AllReadyIn.nil
            go_simp
            refine hK _ _ ?_
            clear hK K
            refine wpAnyIn_ready (rs := [10]) (by kernel_rfl) (by simp) ?_
            refine AllReadyIn.cons rfl (fun K hK => ?_) AllReadyIn.nil
            go_simp
            refine hR.mono ?_
            rintro e W3 (⟨rfl, hJ3, hk3⟩ | ⟨rfl, hJx3⟩)
            all_goals refine hK _ _ ?_
            all_goals clear hK K
            all_goals refine wpAnyIn_ready (rs := [11]) (by kernel_rfl) (by simp) ?_
            all_goals refine AllReadyIn.cons rfl (fun K hK => ?_) AllReadyIn.nil
            all_goals go_simp
            all_goals refine hK _ _ ?_
            all_goals clear hK K
            all_goals refine wpAnyIn_done (by kernel_rfl) ?_ _
            all_goals gi_wp2
            · go_roundw
              case rel => exact ⟨k + 1, _, by go_num, by simp [hpre], Or.inr hlt, hJ3, hnx.trans ((Below.drew (Below.refl _ _)).trans hk3)⟩
              case measure => simp [intOf]; omega
            · refine bodyPost_ret (results_none rfl _ _ _) rfl ?_
              exact ⟨⟨_, rfl⟩, .inr ⟨_, trivial, hJx3⟩⟩
          ·
            go_simp
            refine hK _ _ ?_
            clear hK K
            refine wpAnyIn_ready (rs := [5]) (by kernel_rfl) (by simp) ?_
            refine AllReadyIn.cons rfl (fun K hK => ?_) AllReadyIn.nil
            go_simp
            refine hK _ _ ?_
            clear hK K
            refine wpAnyIn_ready (rs := [10]) (by kernel_rfl) (by simp) ?_
            refine AllReadyIn.cons rfl (fun K hK => ?_) AllReadyIn.nil
            go_simp
            refine hR.mono ?_
            rintro e W3 (⟨rfl, hJ3, hk3⟩ | ⟨rfl, hJx3⟩)
            all_goals refine hK _ _ ?_
            all_goals clear hK K
            all_goals refine wpAnyIn_ready (rs := [11]) (by kernel_rfl) (by simp) ?_
            all_goals refine AllReadyIn.cons rfl (fun K hK => ?_) AllReadyIn.nil
            all_goals go_simp
            all_goals refine hK _ _ ?_
            all_goals clear hK K
            all_goals refine wpAnyIn_done (by kernel_rfl) ?_ _
            all_goals gi_wp2
            · go_roundw
              case rel => exact ⟨k + 1, _, by go_num, by simp [hpre], Or.inr hlt, hJ3, hnx.trans ((Below.drew (Below.refl _ _)).trans hk3)⟩
              case measure => simp [intOf]; omega
            · refine bodyPost_ret (results_none rfl _ _ _) rfl ?_
              exact ⟨⟨_, rfl⟩, .inr ⟨_, trivial, hJx3⟩⟩
      ·
        go_simp
        refine hK _ _ ?_
        clear hK K
        refine wpAnyIn_take (i := 8) (v := _) hro rfl (by kernel_rfl) (by kernel_rfl) (by kernel_rfl) (fun _ _ _ h => h) ⟨Or.inl ⟨by rfl, fun _ => by go_simp; rfl⟩, fun _ => rfl⟩ ?_
        refine wpAnyIn_ready (rs := [1, 9]) (by kernel_rfl) (by simp) ?_
        refine AllReadyIn.cons rfl (fun K hK => ?_) (AllReadyIn.cons rfl (fun K hK => ?_) AllReadyIn.nil)
        ·
          go_simp
          refine hK _ _ ?_
          clear hK K
          refine wpAnyIn_take (i := 4) (v := _) hro rfl (by kernel_rfl) (by kernel_rfl) (by kernel_rfl) (fun _ _ _ h => h) ⟨Or.inl ⟨by rfl, fun _ => by go_simp; rfl⟩, fun _ => rfl⟩ ?_
          refine wpAnyIn_ready (rs := [5, 9]) (by kernel_rfl) (by simp) ?_
          refine AllReadyIn.cons rfl (fun K hK => ?_) (AllReadyIn.cons rfl (fun K hK => ?_) AllReadyIn.nil)
          ·
            go_simp
            refine hK _ _ ?_
            clear hK K
            refine wpAnyIn_ready (rs := [9]) (by kernel_rfl) (by simp) ?_
            refine AllReadyIn.cons rfl (fun K hK => ?_) AllReadyIn.nil
            go_simp
            refine hK _ _ ?_
            clear hK K
            refine wpAnyIn_ready (rs := [10]) (by kernel_rfl) (by simp) ?_
            refine AllReadyIn.cons rfl (fun K hK => ?_) AllReadyIn.nil
            go_simp
            refine hR.mono ?_
            rintro e W3 (⟨rfl, hJ3, hk3⟩ | ⟨rfl, hJx3⟩)
            all_goals refine hK _ _ ?_
            all_goals clear hK K
            all_goals refine wpAnyIn_ready (rs := [11]) (by kernel_rfl) (by simp) ?_
            all_goals refine AllReadyIn.cons rfl (fun K hK => ?_) AllReadyIn.nil
            all_goals go_simp
            all_goals refine hK _ _ ?_
            all_goals clear hK K
            all_goals refine wpAnyIn_done (by kernel_rfl) ?_ _
            all_goals gi_wp2
            · go_roundw
              case rel => exact ⟨k + 1, _, by go_num, by simp [hpre], Or.inr hlt, hJ3, hnx.trans ((Below.drew (Below.refl _ _)).trans hk3)⟩
              case measure => simp [intOf]; omega
            · refine bodyPost_ret (results_none rfl _ _ _) rfl ?_
              exact ⟨⟨_, rfl⟩, .inr ⟨_, trivial, hJx3⟩⟩
          ·
            go_simp
            refine hK _ _ ?_
            clear hK K
            refine wpAnyIn_ready (rs := [5]) (by kernel_rfl) (by simp) ?_
            refine AllReadyIn.cons rfl (fun K hK => ?_) AllReadyIn.nil
            go_simp
            refine hK _ _ ?_
            clear hK K
            refine wpAnyIn_ready (rs := [10]) (by kernel_rfl) (by simp) ?_
            refine AllReadyIn.cons rfl (fun K hK => ?_) AllReadyIn.nil
            go_simp
            refine hR.mono ?_
            rintro e W3 (⟨rfl, hJ3, hk3⟩ | ⟨rfl, hJx3⟩)
            all_goals refine hK _ _ ?_
            all_goals clear hK K
            all_goals refine wpAnyIn_ready (rs := [11]) (by kernel_rfl) (by simp) ?_
            all_goals refine AllReadyIn.cons rfl (fun K hK => ?_) AllReadyIn.nil
            all_goals go_simp
            all_goals refine hK _ _ ?_
            all_goals clear hK K
            all_goals refine wpAnyIn_done (by kernel_rfl) ?_ _
            all_goals gi_wp2
            · go_roundw
              case rel => exact ⟨k + 1, _, by go_num, by simp [hpre], Or.inr hlt, hJ3, hnx.trans ((Below.drew (Below.refl _ _)).trans hk3)⟩
              case measure => simp [intOf]; omega
            · refine bodyPost_ret (results_none rfl _ _ _) rfl ?_
              exact ⟨⟨_, rfl⟩, .inr ⟨_, trivial, hJx3⟩⟩
        ·
          go_simp
          refine hK _ _ ?_
          clear hK K
          refine wpAnyIn_ready (rs := [1]) (by kernel_rfl) (by simp) ?_
          refine AllReadyIn.cons rfl (fun K hK => ?_) AllReadyIn.nil
          go_simp
          refine hK _ _ ?_
          clear hK K
          refine wpAnyIn_take (i := 4) (v := _) hro rfl (by kernel_rfl) (by kernel_rfl) (by kernel_rfl) (fun _ _ _ h => h) ⟨Or.inl ⟨by rfl, fun _ => by go_simp; rfl⟩, fun _ => rfl⟩ ?_
          refine wpAnyIn_ready (rs := [5]) (by kernel_rfl) (by simp) ?_
          refine AllReadyIn.cons rfl (fun K hK => ?_) AllReadyIn.nil
          go_simp
          refine hK _ _ ?_
          clear hK K
          refine wpAnyIn_ready (rs := [10]) (by kernel_rfl) (by simp) ?_
          refine AllReadyIn.cons rfl (fun K hK => ?_) AllReadyIn.nil
          go_simp
          refine hR.mono ?_
          rintro e W3 (⟨rfl, hJ3, hk3⟩ | ⟨rfl, hJx3⟩)
          all_goals refine hK _ _ ?_
          all_goals clear hK K
          all_goals refine wpAnyIn_ready (rs := [11]) (by kernel_rfl) (by simp) ?_
          all_goals refine AllReadyIn.cons rfl (fun K hK => ?_) AllReadyIn.nil
          all_goals go_simp
          all_goals refine hK _ _ ?_
          all_goals clear hK K
          all_goals refine wpAnyIn_done (by kernel_rfl) ?_ _
          all_goals gi_wp2
          · go_roundw
            case rel => exact ⟨k + 1, _, by go_num, by simp [hpre], Or.inr hlt, hJ3, hnx.trans ((Below.drew (Below.refl _ _)).trans hk3)⟩
            case measure => simp [intOf]; omega
          · refine bodyPost_ret (results_none rfl _ _ _) rfl ?_
            exact ⟨⟨_, rfl⟩, .inr ⟨_, trivial, hJx3⟩⟩
    · have e0 : ¬ ((k : Int) + 1 < (l.length : Int)) := by omega
      gi_wp2
      go_end0
      exact ⟨⟨_, rfl⟩, .inl ⟨_, hJs⟩⟩

theorem pairs_stops (F : Fence) (n : Nat) (hF : F.fn 109) (hro : F.round = none) (hn : 1 ≤ n) (Bs : Nat) (sv : Value) (l : List Rng) (w : World) (hBs : w.cell? ⟨Bs, 0, none⟩ = some sv) (hs : RngSl w sv l) (hr : Rises l) :
    SeqStopsK F n Try.prog 109 #[.pointer (some ⟨Bs, 0, none⟩)] encP (Below w.heap.size) (fun _ => True) (fun _ => True) l.length w := fun lp J Jx W hW hJ hJx hY h0 =>
  pairs1_in F n hF hro hn lp Bs sv l J Jx w hY W hJ hBs hs hr hW h0

theorem pairs_any (l : List Rng) (sv : Value) (w : World) (hs : RngSl w sv l) : Calls Try.prog 72 #[sv] w fun e w' => e = .returned (.func (.func 109) #[] #[.pointer (some ⟨w.heap.size, 0, none⟩)]) ∧ w' = w.alloc (.cells #[sv] 30) := by
  obtain ⟨a, c, rfl, -, -⟩ := hs
  go_enter Try.func72, Try.ntmps72
  go_wp2
  go_ret
  exact ⟨rfl, rfl⟩
end Go.Proofs.Ytgglbohcnlcagaa
