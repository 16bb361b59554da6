/- Judging: ghost's check of what is handed in; what a Judge says of maps that have met. -/
import Derived.Test.YtiimoaplhhnklaaDoorJE
namespace Go.Proofs.YtiimoaplhhnklaaDoor
open Go.RowKit
set_option maxHeartbeats 4000000
set_option maxRecDepth 100000
set_option linter.unusedSimpArgs false
set_option linter.unusedVariables false
attribute [-go_sem] Builtin.append_
theorem en_mMax : Enters Tryd.prog 16 := ⟨_, Tryd.func16, by kernel_rfl, rfl⟩
theorem en_r9Max : Enters Tryd.prog 17 := ⟨_, Tryd.func17, by kernel_rfl, rfl⟩
theorem en_ghAlike : Enters Tryd.prog 31 := ⟨_, Tryd.func31, by kernel_rfl, rfl⟩
theorem en_rAlike : Enters Tryd.prog 32 := ⟨_, Tryd.func32, by kernel_rfl, rfl⟩
abbrev cfgV (b l wt tr : Int) : Value := .agg #[.int .i64 b, .int .i64 l, .int .i64 wt, .int .i64 tr]
def gChk (S : List (List Ent)) (b l r : Int) : Int := match S.find? (fun x => decide (heldE x ≠ 0)) with
  | some x => heldE x
  | none => if rightB b l = true ∧ 0 ≤ r then 0 else 1
theorem gChk_some {S : List (List Ent)} {b l r : Int} {k : Nat} (h : k < S.length) (h0 : ∀ x ∈ S.take k, heldE x = 0) (hk : heldE S[k] ≠ 0) : gChk S b l r = heldE S[k] := by
  have e : S.find? (fun x => decide (heldE x ≠ 0)) = some S[k] := by
    conv => lhs; rw [← List.take_append_drop k S, List.drop_eq_getElem_cons h]
    rw [List.find?_append, List.find?_eq_none.2 (fun x hx => by simp [h0 x hx]), Option.none_or, List.find?_cons_of_pos (by simpa using hk)]
  unfold gChk
  rw [e]
theorem gChk_none {S : List (List Ent)} {b l r : Int} (h0 : ∀ x ∈ S, heldE x = 0) : gChk S b l r = if rightB b l = true ∧ 0 ≤ r then 0 else 1 := by
  have e : S.find? (fun x => decide (heldE x ≠ 0)) = none := List.find?_eq_none.2 (fun x hx => by simp [h0 x hx])
  unfold gChk
  rw [e]
theorem gChk_zero {S : List (List Ent)} {b l r : Int} (h : gChk S b l r = 0) : (∀ x ∈ S, heldE x = 0) ∧ rightB b l = true ∧ 0 ≤ r := by
  unfold gChk at h
  split at h
  · rename_i x hx
    have := List.find?_some hx
    simp [h] at this
  · rename_i hx
    refine ⟨fun x hm => by simpa using List.find?_eq_none.1 hx x hm, ?_⟩
    split at h
    · assumption
    · cases h
theorem heldE_pos {l : List Ent} (h : mChk l = 0) (hl : 256 < l.length) : heldE l = 80 := by unfold heldE; rw [if_pos ⟨h, hl⟩]
theorem heldE_len {l : List Ent} (h : mChk l = 0) (hl : ¬ 256 < l.length) : heldE l = 0 := by unfold heldE; rw [if_neg (fun e => hl e.2), h]
theorem heldE_chk {l : List Ent} (h : mChk l ≠ 0) : heldE l = mChk l := by unfold heldE; rw [if_neg (fun e => h e.1)]
theorem heldE_zero {l : List Ent} (h : heldE l = 0) : mChk l = 0 ∧ l.length ≤ 256 := by
  unfold heldE at h
  split at h
  · cases h
  · rename_i h1
    exact ⟨h, by have := fun e => h1 ⟨h, e⟩; omega⟩
theorem gcheck_any {w : World} (b l wt tr r : Int) (sv : Value) (S : List (List Ent)) (hs : SnSl w sv S) :
    Calls Tryd.prog 19 #[cfgV b l wt tr, .int .i64 r, sv] w fun e w' => e = .returned (.int .i64 (gChk S b l r)) ∧ Ext w w' := by
  obtain ⟨a, c, rfl, hlc, hc63, hcells⟩ := hs
  have HC := hid_mk hcells
  clear hcells
  obtain ⟨res, hres⟩ : ∃ res, gChk S b l r = res := ⟨_, rfl⟩
  have HRES := hid_mk hres
  rw [hres]
  clear hres
  go_enter Tryd.func19, Tryd.ntmps19
  go_wp2_with fail
  have HX00 := hid_mk (show Ext w (w.alloc (.cells #[.int .i64 b, .int .i64 l, .int .i64 wt, .int .i64 tr] 44)) by (repeat (first | exact Ext.refl _ | apply Ext.drew_left | apply Ext.drew | apply Ext.alloc)))
  have HB0 := hid_mk (show (w.alloc (.cells #[.int .i64 b, .int .i64 l, .int .i64 wt, .int .i64 tr] 44)).cell? ⟨w.heap.size, 0, none⟩ = some (.int .i64 b) ∧ (w.alloc (.cells #[.int .i64 b, .int .i64 l, .int .i64 wt, .int .i64 tr] 44)).cell? ⟨w.heap.size, 1, none⟩ = some (.int .i64 l) from ⟨by go_simp, by go_simp⟩)
  go_loopw [12] (fun i wr => ∃ k : Nat, k ≤ S.length ∧ i = .int .i64 (k : Int) ∧ (∀ x ∈ S.take k, heldE x = 0) ∧ Ext (w.alloc (.cells #[.int .i64 b, .int .i64 l, .int .i64 wt, .int .i64 tr] 44)) wr) (fun i _ => S.length - (intOf i).toNat)
  case atStart => exact ⟨0, Nat.zero_le _, rfl, by simp, Ext.refl _⟩
  case round =>
    obtain ⟨k, hk, rfl, hf, hx⟩ := hrel
    have HF := hid_mk hf
    have HX0 := hid_mk hx
    have HX := hid_mk (Ext.trans _ _ _ HX00.out hx)
    clear hf hx
    by_cases hlt : k < S.length
    · obtain ⟨mb, mo, rfl, hcl⟩ := HC.out (by omega)
      obtain ⟨lv, hlv, hls⟩ := hcl k hlt
      have HLS := hid_mk (hls.ext HX.out)
      have a0 := cell_ext HX.out hlv
      have hal := cell_lt a0
      have HGS := hid_mk (fun (h : heldE S[k] ≠ 0) => gChk_some (b := b) (l := l) (r := r) hlt HF.out h)
      have HT := hid_mk (show S.take (k + 1) = S.take k ++ [S[k]] from List.take_succ_eq_append_getElem hlt)
      obtain ⟨L, hL⟩ : ∃ L, S[k] = L := ⟨_, rfl⟩
      rw [hL] at HLS HGS HT
      clear hls
      obtain ⟨la, lc, rfl, -⟩ := HLS.out
      have hk1 : (k : Int) < (S.length : Int) := by omega
      have hk0 : (0 : Int) ≤ (k : Int) := by omega
      have HW := hid_mk (show wrap64 ((k : Int) + 1) = (k : Int) + 1 from w64in (by omega))
      obtain ⟨z, hz⟩ : ∃ z, mChk L = z := ⟨_, rfl⟩
      have HZ := hid_mk hz
      clear hcl hlv hL hz
      go_wp2_with fail
      refine (mCheck_any L _ _ HLS.out).mono ?_
      rintro e w1 ⟨rfl, hx1⟩
      rw [HZ.out]
      have HX1 := hid_mk (Ext.trans _ _ _ HX0.out hx1)
      clear hx1
      by_cases hz0 : z = 0
      · subst hz0
        by_cases hbig : 256 < L.length
        · have hbig' : (256 : Int) < (L.length : Int) := by omega
          have HR := hid_mk (show (80 : Int) = res by rw [← HRES.out, HGS.out (by rw [heldE_pos HZ.out hbig]; simp), heldE_pos HZ.out hbig])
          go_wp2
          go_ret
          exact ⟨ret_int HR.out, Ext.trans _ _ _ HX00.out HX1.out⟩
        · have hbig' : ¬ (256 : Int) < (L.length : Int) := by omega
          have HH := hid_mk (heldE_len HZ.out hbig)
          go_wp2
          go_roundw
          case rel =>
            refine ⟨k + 1, by omega, (by first | exact congrArg (Value.int .i64) HW.out | rfl), fun x hx => ?_, HX1.out⟩
            rw [HT.out] at hx
            rcases List.mem_append.1 hx with hx | hx
            · exact HF.out x hx
            · rw [List.mem_singleton] at hx
              rw [hx]; exact HH.out
          case measure => (try simp only [HW.out]); simp [intOf]; omega
      · have hb : (z == 0) = false := by rw [beq_eq_false_iff_ne]; exact hz0
        have HR := hid_mk (show z = res by rw [← HRES.out, HGS.out (by rw [heldE_chk (by rw [HZ.out]; exact hz0), HZ.out]; exact hz0), heldE_chk (by rw [HZ.out]; exact hz0), HZ.out])
        go_wp2
        go_ret
        exact ⟨ret_int HR.out, Ext.trans _ _ _ HX00.out HX1.out⟩
    · obtain rfl : k = S.length := by omega
      have hmm : ¬ ((S.length : Nat) : Int) < (S.length : Int) := by omega
      rw [List.take_length] at HF
      have HR := hid_mk (show (if rightB b l = true ∧ 0 ≤ r then 0 else 1) = res by rw [← HRES.out, gChk_none HF.out])
      have d0 := cell_ext HX0.out HB0.out.1
      have d1 := cell_ext HX0.out HB0.out.2
      have hdl := cell_lt d0
      go_wp2
      all_goals go_ret
      all_goals refine ⟨ret_int ?_, HX.out⟩
      all_goals (rw [← HR.out]; unfold rightB; first | (rw [if_pos (by simp; omega)]) | (rw [if_neg (by simp; omega)]))
end Go.Proofs.YtiimoaplhhnklaaDoor
