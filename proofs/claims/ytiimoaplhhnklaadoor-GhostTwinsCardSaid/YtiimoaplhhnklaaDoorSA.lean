/- Timers: how two alarms, two names compare, in the program and in the document. -/
import Derived.Test.YtiimoaplhhnklaaDoorPT
import Derived.Test.YtiimoaplhhnklaaDoorMapK
import Derived.Test.YtiimoaplhhnklaaDoorRowT
import Derived.Maps.AppendAt
namespace Go.Proofs.YtiimoaplhhnklaaDoor
open Go.RowKit
set_option maxHeartbeats 2000000
set_option maxRecDepth 100000
set_option linter.unusedSimpArgs false
set_option linter.unusedVariables false
theorem firstNZ_drop (xs : List Int) (k : Nat) (h : k < xs.length) : firstNZ (xs.drop k) = if xs.getD k 0 = 0 then firstNZ (xs.drop (k+1)) else xs.getD k 0 := by
  rw [List.drop_eq_getElem_cons h]; simp [firstNZ, List.getD_eq_getElem?_getD, h]
theorem cmpOr_any (b off cap : Nat) (xs : List Int) (w : World) (hlen : xs.length ≤ 1000) (hc : ∀ i, i < xs.length → w.cell? ⟨b, off+i, none⟩ = some (.int .i64 (xs.getD i 0))) :
    Calls Tryd.prog 72 #[.slice (some ⟨b, off, none⟩) xs.length cap] w fun e w' => e = .returned (.int .i64 (firstNZ xs)) ∧ w = w' := by
  go_enter Tryd.func72, Tryd.ntmps72
  go_wp2
  go_loop [8] (fun i => ∃ k : Nat, k ≤ xs.length ∧ i = .int .i64 k ∧ firstNZ xs = firstNZ (xs.drop k)) (fun i => xs.length - (intOf i).toNat)
  case atStart => exact ⟨0, Nat.zero_le _, rfl, by simp⟩
  case round =>
    obtain ⟨k, hk, rfl, hf⟩ := hrel
    have HF : Hid (firstNZ xs = firstNZ (xs.drop k)) := hf
    clear hf
    by_cases hlt : k < xs.length
    · have hcell := hc k hlt
      have HS : Hid (firstNZ (xs.drop k) = if xs.getD k 0 = 0 then firstNZ (xs.drop (k+1)) else xs.getD k 0) := firstNZ_drop xs k hlt
      clear hc
      by_cases hz : xs.getD k 0 = 0
      · rw [hz] at hcell
        have HZ : Hid (xs.getD k 0 = 0) := hz
        clear hz
        go_wp2
        go_round
        case rel => exact ⟨k+1, by omega, by go_num, by rw [HF.out, HS.out, if_pos HZ.out]⟩
        case measure => simp [intOf]; omega
      · generalize xs.getD k 0 = z at *
        go_wp2
        go_ret
        refine ⟨?_, rfl⟩
        rw [HF.out, HS.out, if_neg hz]; rfl
    · go_wp2
      go_ret
      refine ⟨?_, rfl⟩
      rw [HF.out, List.drop_of_length_le (by omega)]; rfl
theorem cmpOr4 (b cap : Nat) (x y z u : Int) (w : World) (h0 : w.cell? ⟨b, 0, none⟩ = some (.int .i64 x)) (h1 : w.cell? ⟨b, 1, none⟩ = some (.int .i64 y)) (h2 : w.cell? ⟨b, 2, none⟩ = some (.int .i64 z)) (h3 : w.cell? ⟨b, 3, none⟩ = some (.int .i64 u)) :
    Calls Tryd.prog 72 #[.slice (some ⟨b, 0, none⟩) 4 cap] w fun e w' => e = .returned (.int .i64 (firstNZ [x, y, z, u])) ∧ w = w' :=
  cmpOr_any b 0 cap [x, y, z, u] w (by simp) (fun i hi => by
    match i, hi with
    | 0, _ => exact h0
    | 1, _ => exact h1
    | 2, _ => exact h2
    | 3, _ => exact h3)
abbrev nmV (n : Nm) : Value := .agg #[.int .i64 n.1, .int .i64 n.2.1, .int .i64 n.2.2]
abbrev alV (a : Al) : Value := .agg #[.int .i64 a.1.1, .int .i64 a.1.2.1, .int .i64 a.1.2.2, .int .i64 a.2]
theorem cmpAl_def (a b : Al) : cmpAl a b = firstNZ [cmpI a.2 b.2, cmpI a.1.1 b.1.1, cmpI a.1.2.1 b.1.2.1, cmpI a.1.2.2 b.1.2.2] := rfl
def cmpN (a b : Nm) : Int := firstNZ [cmpI a.1 b.1, cmpI a.2.1 b.2.1, cmpI a.2.2 b.2.2]
theorem first_is (a b : Al) : (if a.2 = b.2 then decide (cmpN a.1 b.1 < 0) else decide (a.2 < b.2)) = decide (aLt a b) := by
  rw [Bool.eq_iff_iff, decide_eq_true_eq, ← cmp_lt a b]
  unfold cmpAl cmpN
  by_cases h1 : a.2 = b.2
  · rw [if_pos h1, decide_eq_true_eq]
    have e : cmpI a.2 b.2 = 0 := by unfold cmpI; rw [if_neg (by omega), if_neg (by omega)]
    rw [e]
    simp only [firstNZ, if_true]
  · rw [if_neg h1, decide_eq_true_eq]
    have e : cmpI a.2 b.2 = (if a.2 < b.2 then -1 else 1) := by 
      unfold cmpI
      split
      · rfl
      · rw [if_pos (by omega)]
    rw [e]
    simp only [firstNZ]
    split <;> simp [*]
end Go.Proofs.YtiimoaplhhnklaaDoor
