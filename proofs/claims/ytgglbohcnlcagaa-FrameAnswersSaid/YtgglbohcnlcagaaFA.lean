/- The first frame of a session; Closing and Entries. -/
import Derived.Test.YtgglbohcnlcagaaF9
import Derived.Test.YtgglbohcnlcagaaReg2
namespace Go.Proofs.Ytgglbohcnlcagaa
open Go.RowKit
set_option maxHeartbeats 8000000
set_option maxRecDepth 100000
set_option linter.unusedSimpArgs false
set_option linter.unusedVariables false
theorem en_fFirst : Enters Try.prog 53 := ⟨_, Try.func53, by kernel_rfl, rfl⟩
theorem en_rFirst : Enters Try.prog 54 := ⟨_, Try.func54, by kernel_rfl, rfl⟩
theorem en_fClosing : Enters Try.prog 26 := ⟨_, Try.func26, by kernel_rfl, rfl⟩
theorem en_rClosing : Enters Try.prog 27 := ⟨_, Try.func27, by kernel_rfl, rfl⟩
theorem en_Entries : Enters Try.prog 18 := ⟨_, Try.func18, by kernel_rfl, rfl⟩

theorem fClosing_any (f t o li nu tu : Int) (l : List Prt) (sv : Value) (w : World) (hs : PrtSl w sv l) :
    Calls Try.prog 26 #[.agg #[.int .i64 f, .int .i64 t, .int .i64 o, .int .i64 li, .int .i64 nu, .int .i64 tu, sv]] w fun e w' => e = .returned (.bool ((l.length : Int) == 0)) ∧ Ext w w' := by
  obtain ⟨a, c, rfl, -, -, -⟩ := hs
  go_enter Try.func26, Try.ntmps26
  go_wp2
  go_ret
  exact ⟨rfl, by (repeat (first | exact Ext.refl _ | apply Ext.drew_left | apply Ext.drew | apply Ext.alloc))⟩
theorem rClosing_any (f t o li nu tu : Int) (l : List Prt) (sv : Value) (w : World) (hs : PrtSl w sv l) :
    Calls Try.prog 27 #[.agg #[.int .i64 f, .int .i64 t, .int .i64 o, .int .i64 li, .int .i64 nu, .int .i64 tu, sv]] w fun e w' => e = .returned (.bool ((l.length : Int) == 0)) ∧ Ext w w' := by
  obtain ⟨a, c, rfl, -, -, -⟩ := hs
  go_enter Try.func27, Try.ntmps27
  go_wp2
  go_ret
  exact ⟨rfl, by (repeat (first | exact Ext.refl _ | apply Ext.drew_left | apply Ext.drew | apply Ext.alloc))⟩

theorem wrap64_is (n : Int) : IntKind.i64.wrap n = wrap64 n := by rw [IntKind.wrap_i64]; unfold wrap64; rfl
/-- The number of entries, as the machine adds them. -/
def entsNum (l : List Prt) : Int := l.foldl (fun n p => IntKind.i64.wrap (n + p.ents.length)) 0
theorem entsNum_take_succ (l : List Prt) (k : Nat) (h : k < l.length) : entsNum (l.take (k + 1)) = IntKind.i64.wrap (entsNum (l.take k) + l[k].ents.length) := by
  unfold entsNum
  rw [List.take_succ_eq_append_getElem h, List.foldl_append]; rfl
theorem Entries_any (f t o li nu tu : Int) (l : List Prt) (sv : Value) (w : World) (hs : PrtSl w sv l) :
    Calls Try.prog 18 #[.agg #[.int .i64 f, .int .i64 t, .int .i64 o, .int .i64 li, .int .i64 nu, .int .i64 tu, sv]] w fun e w' => e = .returned (.int .i64 (entsNum l)) ∧ Ext w w' := by
  obtain ⟨a, c, rfl, hlc, hc63, hcells⟩ := hs
  have HC := hid_mk hcells
  clear hcells
  have hl63 : l.length ≤ 4611686018427387904 := by omega
  go_enter Try.func18, Try.ntmps18
  go_wp2
  go_loopw [3, 9] (fun n i wr => ∃ k : Nat, k ≤ l.length ∧ i = .int .i64 k ∧ n = .int .i64 (entsNum (l.take k)) ∧ Ext (w.alloc (.cells #[.int .i64 f, .int .i64 t, .int .i64 o, .int .i64 li, .int .i64 nu, .int .i64 tu, .slice a l.length c] 26)) wr) (fun _ i _ => l.length - (intOf i).toNat)
  case atStart => exact ⟨0, Nat.zero_le _, rfl, by simp [entsNum], Ext.refl _⟩
  case round =>
    obtain ⟨k, hk, rfl, rfl, hx⟩ := hrel
    have HX := hid_mk hx
    clear hx
    by_cases hlt : k < l.length
    · obtain ⟨b, o', rfl, hcl⟩ := HC.out (by omega)
      obtain ⟨pv, hA⟩ := hcl k hlt
      clear hcl
      have hA := hA.ext (Ext.trans _ _ _ ((Ext.refl _).alloc _) HX.out)
      obtain ⟨a0, a1, a2, a3, a4, a5, a6, a7, es⟩ := hA
      obtain ⟨ea, ec, rfl, -, -, -⟩ := es
      have HN := hid_mk (entsNum_take_succ l k hlt)
      generalize entsNum (l.take k) = n at *
      generalize l[k] = p at *
      obtain ⟨kind, lo, hi, op, cnt, s0, s1, ents⟩ := p
      dsimp only at a0 a1 a2 a3 a4 a5 a6 a7 HN
      generalize ents.length = m at *
      go_wp2
      go_roundw
      case rel => exact ⟨k + 1, by omega, by go_num, by rw [HN.out]; exact congrArg (Value.int .i64) (wrap64_is _).symm, HX.out.alloc _⟩
      case measure => simp [intOf]; omega
    · have e : k = l.length := by omega
      subst e
      rw [List.take_length]
      go_wp2
      go_ret
      exact ⟨rfl, Ext.trans _ _ _ ((Ext.refl _).alloc _) HX.out⟩

/-- The one part of a first frame. -/
def fstPrt (cnt s0 s1 : Int) : Prt := ⟨1, ⟨#[]⟩, ⟨#[]⟩, true, cnt, s0, s1, []⟩
theorem Ext.setC {w w' : World} (h : Ext w w') {b o : Nat} {u : Value} (hp : w.heap.size ≤ b) : Ext w (w'.setCell ⟨b, o, none⟩ u) := Ext.of (Below.setCell h.below hp u)
theorem frozen_ext {w w' : World} (hx : Ext w w') {b o : Nat} (hb : b < w.heap.size) (h : w.frozen? ⟨b, o, none⟩ = false) : w'.frozen? ⟨b, o, none⟩ = false := by rw [hx.hf b o hb]; exact h
theorem entSl_nil (w : World) : EntSl w (.slice none 0 0) [] := ⟨none, 0, rfl, Nat.le_refl _, by simp, fun h => absurd h (by simp)⟩
theorem prtSl_one {w : World} {S c : Nat} {sv : Value} {p : Prt} (h : PrtAt w S 0 sv p) (hc : 1 ≤ c) : PrtSl w (.slice (some ⟨S, 0, none⟩) 1 c) [p] :=
  ⟨_, c, rfl, hc, by simp, fun _ => ⟨S, 0, rfl, fun i hi => by
    have e : i = 0 := by simp at hi; omega
    subst e
    exact ⟨sv, by simpa using h⟩⟩⟩

/-- What comes of First. -/
def FstOut (peer o li nu cnt s0 s1 : Int) (w : World) (e : Ending) (w' : World) : Prop :=
  (frmChk ⟨o, peer, o, li, nu, 0, [fstPrt cnt s0 s1]⟩ = 0 → ∃ sv, e = .returned (.tuple #[.agg #[.int .i64 o, .int .i64 peer, .int .i64 o, .int .i64 li, .int .i64 nu, .int .i64 0, sv], .int .i64 0]) ∧ PrtSl w' sv [fstPrt cnt s0 s1]) ∧
  (frmChk ⟨o, peer, o, li, nu, 0, [fstPrt cnt s0 s1]⟩ ≠ 0 → e = .returned (.tuple #[.agg #[.int .i64 0, .int .i64 0, .int .i64 0, .int .i64 0, .int .i64 0, .int .i64 0, .slice none 0 0], .int .i64 (frmChk ⟨o, peer, o, li, nu, 0, [fstPrt cnt s0 s1]⟩)])) ∧ Ext w w'

theorem fFirst_any (peer o li nu cnt s0 s1 : Int) (w : World) :
    Calls Try.prog 53 #[.int .i64 peer, .agg #[.int .i64 o, .int .i64 li, .int .i64 nu], .agg #[.int .i64 cnt, .int .u64 s0, .int .u64 s1]] w fun e w' => FstOut peer o li nu cnt s0 s1 w e w' := by
  unfold FstOut
  go_enter Try.func53, Try.ntmps53
  go_wp2_with fail
  refine wp_region_held_below (fun i => i != 10) (.quiet 0 (.quiet 1 (.quiet 2 (.quiet 3 (.quiet 5 (.alt 4 (.quiet 6 (.alt 7 (.quiet 8 (.alt 9 (.alt 10 .done .stop) .stop)) (.alt 9 (.alt 7 (.quiet 8 (.alt 10 .done .stop)) .stop) .stop))) (.alt 9 (.alt 4 (.quiet 6 (.alt 7 (.quiet 8 (.alt 10 .done .stop)) .stop)) .stop) .stop))))))) (by kernel_rfl) (by kernel_rfl) (by intro c a w d v h; cases d <;> exact h) (fun ops HO => ?_)
  refine plan_read _ (hi_of HO rfl) rfl (fun w' hE => by (first | replace hE := Ext.unD hE | skip); have hcE := hE.hc; clear hE; go_simp; rfl) ?_
  simp only [Act.put, List.setIfInBounds_toArray, List.set_cons_succ, List.set_cons_zero]
  refine plan_read _ (hi_of HO rfl) rfl (fun w' hE => by (first | replace hE := Ext.unD hE | skip); have hcE := hE.hc; clear hE; go_simp; rfl) ?_
  simp only [Act.put, List.setIfInBounds_toArray, List.set_cons_succ, List.set_cons_zero]
  refine plan_read _ (hi_of HO rfl) rfl (fun w' hE => by (first | replace hE := Ext.unD hE | skip); have hcE := hE.hc; clear hE; go_simp; rfl) ?_
  simp only [Act.put, List.setIfInBounds_toArray, List.set_cons_succ, List.set_cons_zero]
  refine plan_read _ (hi_of HO rfl) rfl (fun w' hE => by (first | replace hE := Ext.unD hE | skip); have hcE := hE.hc; clear hE; go_simp; rfl) ?_
  simp only [Act.put, List.setIfInBounds_toArray, List.set_cons_succ, List.set_cons_zero]
  refine plan_read _ (hi_of HO rfl) rfl (fun w' hE => by (first | replace hE := Ext.unD hE | skip); have hcE := hE.hc; clear hE; go_simp; rfl) ?_
  simp only [Act.put, List.setIfInBounds_toArray, List.set_cons_succ, List.set_cons_zero]
  refine plan_fork ?lA101 ?lB101
  case' lA101 =>
    refine plan_call1 en_sWhole (hi_of HO rfl) rfl rfl (by go_simp; rfl) (by exact (sWhole_any _)) ?_
    rintro e v102 ⟨rfl, hx102⟩
    refine ⟨_, rfl, fun _ => hx102, ?_⟩
    have hy102 := hid_mk (by first | (with_reducible exact Ext.unD hx102) | exact hx102 : Ext _ v102)
    have hc102 := hx102.hc; have hl102 := hx102.hl; have he102 := hx102.hle; have hn102 := hx102.hne; replace hx102 := hid_mk hx102
    simp only [Act.put, List.setIfInBounds_toArray, List.set_cons_succ, List.set_cons_zero]
    have hf102 := hx102.out.hf
    have HV := hid_mk (show Ext w v102 from Ext.trans _ _ _ (by (repeat (first | exact Ext.refl _ | apply Ext.drew_left | apply Ext.drew | apply Ext.alloc))) hy102.out)
    have r0 : v102.cell? ⟨w.heap.size + 1 + 1, 0, none⟩ = some (.int .i64 0) := cell_ext hy102.out (by go_simp)
    have r1 : v102.cell? ⟨w.heap.size + 1 + 1, 1, none⟩ = some (.int .i64 0) := cell_ext hy102.out (by go_simp)
    have r2 : v102.cell? ⟨w.heap.size + 1 + 1, 2, none⟩ = some (.int .i64 0) := cell_ext hy102.out (by go_simp)
    have r3 : v102.cell? ⟨w.heap.size + 1 + 1, 3, none⟩ = some (.int .i64 0) := cell_ext hy102.out (by go_simp)
    have r4 : v102.cell? ⟨w.heap.size + 1 + 1, 4, none⟩ = some (.int .i64 0) := cell_ext hy102.out (by go_simp)
    have r5 : v102.cell? ⟨w.heap.size + 1 + 1, 5, none⟩ = some (.int .i64 0) := cell_ext hy102.out (by go_simp)
    have r6 : v102.cell? ⟨w.heap.size + 1 + 1, 6, none⟩ = some (.slice none 0 0) := cell_ext hy102.out (by go_simp)
    have hrl := cell_lt r0
    have hrn : ¬ (w.heap.size + 1 + 1 = v102.heap.size) := Nat.ne_of_lt hrl
    have q0 : v102.frozen? ⟨w.heap.size + 1 + 1, 0, none⟩ = false := frozen_ext hy102.out (by go_simp) (by go_simp)
    have q1 : v102.frozen? ⟨w.heap.size + 1 + 1, 1, none⟩ = false := frozen_ext hy102.out (by go_simp) (by go_simp)
    have q2 : v102.frozen? ⟨w.heap.size + 1 + 1, 2, none⟩ = false := frozen_ext hy102.out (by go_simp) (by go_simp)
    have q3 : v102.frozen? ⟨w.heap.size + 1 + 1, 3, none⟩ = false := frozen_ext hy102.out (by go_simp) (by go_simp)
    have q4 : v102.frozen? ⟨w.heap.size + 1 + 1, 4, none⟩ = false := frozen_ext hy102.out (by go_simp) (by go_simp)
    have q5 : v102.frozen? ⟨w.heap.size + 1 + 1, 5, none⟩ = false := frozen_ext hy102.out (by go_simp) (by go_simp)
    have q6 : v102.frozen? ⟨w.heap.size + 1 + 1, 6, none⟩ = false := frozen_ext hy102.out (by go_simp) (by go_simp)
    refine plan_read _ (hi_of HO rfl) rfl (fun w' hE => by have hcE := (Ext.trans _ _ _ (by (repeat (first | exact hx102.out | apply Ext.drew | apply Ext.alloc))) hE).hc; (first | replace hE := Ext.unD hE | skip); have hcF := hE.hc; clear hE; go_simp; rfl) ?_
    simp only [Act.put, List.setIfInBounds_toArray, List.set_cons_succ, List.set_cons_zero]
    refine plan_fork ?lA103 ?lB103
    case' lA103 =>
      refine plan_loud1 (hi_of HO rfl) rfl ?_
      go_simp
      refine ⟨by (repeat (first | exact Ext.refl _ | apply Ext.drew_left | apply Ext.drew | apply Ext.alloc)), ?_⟩
      refine plan_read _ (hi_of HO rfl) rfl (fun w' hE => by have hcE := (Ext.trans _ _ _ (by (repeat (first | exact hx102.out | apply Ext.drew | apply Ext.alloc))) hE).hc; (first | replace hE := Ext.unD hE | skip); have hcF := hE.hc; clear hE; go_simp; rfl) ?_
      simp only [Act.put, List.setIfInBounds_toArray, List.set_cons_succ, List.set_cons_zero]
      refine plan_loud1 (hi_of HO rfl) rfl ?_
      go_simp
      refine ⟨by (repeat (first | exact Ext.refl _ | apply Ext.drew_left | apply Ext.drew | apply Ext.alloc)), ?_⟩
      refine plan_loud1 (hi_of HO rfl) rfl ?_
      go_simp
      skip
      refine plan_done ?fin104
    case' lB103 =>
      refine plan_loud1 (hi_of HO rfl) rfl ?_
      go_simp
      refine ⟨by (repeat (first | exact Ext.refl _ | apply Ext.drew_left | apply Ext.drew | apply Ext.alloc)), ?_⟩
      refine plan_loud1 (hi_of HO rfl) rfl ?_
      go_simp
      refine ⟨by (repeat (first | exact Ext.refl _ | apply Ext.drew_left | apply Ext.drew | apply Ext.alloc)), ?_⟩
      refine plan_read _ (hi_of HO rfl) rfl (fun w' hE => by have hcE := (Ext.trans _ _ _ (by (repeat (first | exact hx102.out | apply Ext.drew | apply Ext.alloc))) hE).hc; (first | replace hE := Ext.unD hE | skip); have hcF := hE.hc; clear hE; go_simp; rfl) ?_
      simp only [Act.put, List.setIfInBounds_toArray, List.set_cons_succ, List.set_cons_zero]
      refine plan_loud1 (hi_of HO rfl) rfl ?_
      go_simp
      skip
      refine plan_done ?fin105
  case' lB101 =>
    refine plan_loud1 (hi_of HO rfl) rfl ?_
    go_simp
    refine ⟨by (repeat (first | exact Ext.refl _ | apply Ext.drew_left | apply Ext.drew | apply Ext.alloc)), ?_⟩
    refine plan_call1 en_sWhole (hi_of HO rfl) rfl rfl (by go_simp; rfl) (by exact (sWhole_any _)) ?_
    rintro e v106 ⟨rfl, hx106⟩
    refine ⟨_, rfl, fun _ => hx106, ?_⟩
    have hy106 := hid_mk (by first | (with_reducible exact Ext.unD hx106) | exact hx106 : Ext _ v106)
    have hc106 := hx106.hc; have hl106 := hx106.hl; have he106 := hx106.hle; have hn106 := hx106.hne; replace hx106 := hid_mk hx106
    simp only [Act.put, List.setIfInBounds_toArray, List.set_cons_succ, List.set_cons_zero]
    have hf106 := hx106.out.hf
    have HV := hid_mk (show Ext w v106 from Ext.trans _ _ _ (by (repeat (first | exact Ext.refl _ | apply Ext.drew_left | apply Ext.drew | apply Ext.alloc))) hy106.out)
    have r0 : v106.cell? ⟨w.heap.size + 1 + 1, 0, none⟩ = some (.int .i64 0) := cell_ext hy106.out (by go_simp)
    have r1 : v106.cell? ⟨w.heap.size + 1 + 1, 1, none⟩ = some (.int .i64 0) := cell_ext hy106.out (by go_simp)
    have r2 : v106.cell? ⟨w.heap.size + 1 + 1, 2, none⟩ = some (.int .i64 0) := cell_ext hy106.out (by go_simp)
    have r3 : v106.cell? ⟨w.heap.size + 1 + 1, 3, none⟩ = some (.int .i64 0) := cell_ext hy106.out (by go_simp)
    have r4 : v106.cell? ⟨w.heap.size + 1 + 1, 4, none⟩ = some (.int .i64 0) := cell_ext hy106.out (by go_simp)
    have r5 : v106.cell? ⟨w.heap.size + 1 + 1, 5, none⟩ = some (.int .i64 0) := cell_ext hy106.out (by go_simp)
    have r6 : v106.cell? ⟨w.heap.size + 1 + 1, 6, none⟩ = some (.slice none 0 0) := cell_ext hy106.out (by go_simp)
    have hrl := cell_lt r0
    have hrn : ¬ (w.heap.size + 1 + 1 = v106.heap.size) := Nat.ne_of_lt hrl
    have q0 : v106.frozen? ⟨w.heap.size + 1 + 1, 0, none⟩ = false := frozen_ext hy106.out (by go_simp) (by go_simp)
    have q1 : v106.frozen? ⟨w.heap.size + 1 + 1, 1, none⟩ = false := frozen_ext hy106.out (by go_simp) (by go_simp)
    have q2 : v106.frozen? ⟨w.heap.size + 1 + 1, 2, none⟩ = false := frozen_ext hy106.out (by go_simp) (by go_simp)
    have q3 : v106.frozen? ⟨w.heap.size + 1 + 1, 3, none⟩ = false := frozen_ext hy106.out (by go_simp) (by go_simp)
    have q4 : v106.frozen? ⟨w.heap.size + 1 + 1, 4, none⟩ = false := frozen_ext hy106.out (by go_simp) (by go_simp)
    have q5 : v106.frozen? ⟨w.heap.size + 1 + 1, 5, none⟩ = false := frozen_ext hy106.out (by go_simp) (by go_simp)
    have q6 : v106.frozen? ⟨w.heap.size + 1 + 1, 6, none⟩ = false := frozen_ext hy106.out (by go_simp) (by go_simp)
    refine plan_read _ (hi_of HO rfl) rfl (fun w' hE => by have hcE := (Ext.trans _ _ _ (by (repeat (first | exact hx106.out | apply Ext.drew | apply Ext.alloc))) hE).hc; (first | replace hE := Ext.unD hE | skip); have hcF := hE.hc; clear hE; go_simp; rfl) ?_
    simp only [Act.put, List.setIfInBounds_toArray, List.set_cons_succ, List.set_cons_zero]
    refine plan_loud1 (hi_of HO rfl) rfl ?_
    go_simp
    refine ⟨by (repeat (first | exact Ext.refl _ | apply Ext.drew_left | apply Ext.drew | apply Ext.alloc)), ?_⟩
    refine plan_read _ (hi_of HO rfl) rfl (fun w' hE => by have hcE := (Ext.trans _ _ _ (by (repeat (first | exact hx106.out | apply Ext.drew | apply Ext.alloc))) hE).hc; (first | replace hE := Ext.unD hE | skip); have hcF := hE.hc; clear hE; go_simp; rfl) ?_
    simp only [Act.put, List.setIfInBounds_toArray, List.set_cons_succ, List.set_cons_zero]
    refine plan_loud1 (hi_of HO rfl) rfl ?_
    go_simp
    skip
    refine plan_done ?fin107
  · go_wp2_with fail
    refine (fCheck_any o peer o li nu 0 [fstPrt cnt s0 s1] _ _ (prtSl_one (p := fstPrt cnt s0 s1) (sv := .slice none 0 0) ⟨by simp only [fstPrt]; go_simp, by simp only [fstPrt]; go_simp, by simp only [fstPrt]; go_simp, by simp only [fstPrt]; go_simp, by simp only [fstPrt]; go_simp, by simp only [fstPrt]; go_simp, by simp only [fstPrt]; go_simp, by go_simp, entSl_nil _⟩ (Nat.le_refl _))).mono ?_
    rintro e w1 ⟨rfl, hx1⟩
    have HW := hid_mk (show Ext w w1 from Ext.trans _ _ _ (by repeat (first | (with_reducible exact HV.out) | (with_reducible exact Ext.refl _) | (with_reducible refine Ext.setC ?_ (by omega)) | (with_reducible apply Ext.drew) | (with_reducible apply Ext.alloc))) hx1)
    have hc1 := hx1.hc; have hl1 := hx1.hl; have he1 := hx1.hle; have hn1 := hx1.hne; replace hx1 := hid_mk hx1
    have t0 : w1.cell? ⟨w.heap.size + 1 + 1, 0, none⟩ = some (.int .i64 0) := cell_ext hx1.out (by go_simp)
    have t1 : w1.cell? ⟨w.heap.size + 1 + 1, 1, none⟩ = some (.int .i64 0) := cell_ext hx1.out (by go_simp)
    have t2 : w1.cell? ⟨w.heap.size + 1 + 1, 2, none⟩ = some (.int .i64 0) := cell_ext hx1.out (by go_simp)
    have t3 : w1.cell? ⟨w.heap.size + 1 + 1, 3, none⟩ = some (.int .i64 0) := cell_ext hx1.out (by go_simp)
    have t4 : w1.cell? ⟨w.heap.size + 1 + 1, 4, none⟩ = some (.int .i64 0) := cell_ext hx1.out (by go_simp)
    have t5 : w1.cell? ⟨w.heap.size + 1 + 1, 5, none⟩ = some (.int .i64 0) := cell_ext hx1.out (by go_simp)
    have t6 : w1.cell? ⟨w.heap.size + 1 + 1, 6, none⟩ = some (.slice none 0 0) := cell_ext hx1.out (by go_simp)
    have u0 : w1.frozen? ⟨w.heap.size + 1 + 1, 0, none⟩ = false := frozen_ext hx1.out (by go_simp) (by go_simp)
    have u1 : w1.frozen? ⟨w.heap.size + 1 + 1, 1, none⟩ = false := frozen_ext hx1.out (by go_simp) (by go_simp)
    have u2 : w1.frozen? ⟨w.heap.size + 1 + 1, 2, none⟩ = false := frozen_ext hx1.out (by go_simp) (by go_simp)
    have u3 : w1.frozen? ⟨w.heap.size + 1 + 1, 3, none⟩ = false := frozen_ext hx1.out (by go_simp) (by go_simp)
    have u4 : w1.frozen? ⟨w.heap.size + 1 + 1, 4, none⟩ = false := frozen_ext hx1.out (by go_simp) (by go_simp)
    have u5 : w1.frozen? ⟨w.heap.size + 1 + 1, 5, none⟩ = false := frozen_ext hx1.out (by go_simp) (by go_simp)
    have u6 : w1.frozen? ⟨w.heap.size + 1 + 1, 6, none⟩ = false := frozen_ext hx1.out (by go_simp) (by go_simp)
    have hrl1 := cell_lt t0
    by_cases hz : frmChk ⟨o, peer, o, li, nu, 0, [fstPrt cnt s0 s1]⟩ = 0
    · rw [hz]
      go_wp2
      refine bodyPost_ret (v := .tuple #[.agg #[.int .i64 o, .int .i64 peer, .int .i64 o, .int .i64 li, .int .i64 nu, .int .i64 0, .slice (some ⟨_, 0, none⟩) 1 1], .int .i64 0]) (by unfold results; rw [Try.results53]; go_simp; rfl) rfl ⟨fun _ => ⟨_, rfl, ?_⟩, fun h => absurd hz h, ?_⟩
      · exact prtSl_one (p := fstPrt cnt s0 s1) (sv := .slice none 0 0) ⟨by simp only [fstPrt]; go_simp, by simp only [fstPrt]; go_simp, by simp only [fstPrt]; go_simp, by simp only [fstPrt]; go_simp, by simp only [fstPrt]; go_simp, by simp only [fstPrt]; go_simp, by simp only [fstPrt]; go_simp, by go_simp, entSl_nil _⟩ (Nat.le_refl _)
      · iterate 7 (with_reducible refine Ext.setC ?_ (by omega))
        exact HW.out
    · go_wp2
      refine bodyPost_ret (v := .tuple #[.agg #[.int .i64 0, .int .i64 0, .int .i64 0, .int .i64 0, .int .i64 0, .int .i64 0, .slice none 0 0], .int .i64 _]) (by unfold results; rw [Try.results53]; go_simp) rfl ⟨fun h => absurd h hz, fun _ => rfl, ?_⟩
      · iterate 7 (with_reducible refine Ext.setC ?_ (by omega))
        exact HW.out
  · go_wp2_with fail
    refine (fCheck_any o peer o li nu 0 [fstPrt cnt s0 s1] _ _ (prtSl_one (p := fstPrt cnt s0 s1) (sv := .slice none 0 0) ⟨by simp only [fstPrt]; go_simp, by simp only [fstPrt]; go_simp, by simp only [fstPrt]; go_simp, by simp only [fstPrt]; go_simp, by simp only [fstPrt]; go_simp, by simp only [fstPrt]; go_simp, by simp only [fstPrt]; go_simp, by go_simp, entSl_nil _⟩ (Nat.le_refl _))).mono ?_
    rintro e w1 ⟨rfl, hx1⟩
    have HW := hid_mk (show Ext w w1 from Ext.trans _ _ _ (by repeat (first | (with_reducible exact HV.out) | (with_reducible exact Ext.refl _) | (with_reducible refine Ext.setC ?_ (by omega)) | (with_reducible apply Ext.drew) | (with_reducible apply Ext.alloc))) hx1)
    have hc1 := hx1.hc; have hl1 := hx1.hl; have he1 := hx1.hle; have hn1 := hx1.hne; replace hx1 := hid_mk hx1
    have t0 : w1.cell? ⟨w.heap.size + 1 + 1, 0, none⟩ = some (.int .i64 0) := cell_ext hx1.out (by go_simp)
    have t1 : w1.cell? ⟨w.heap.size + 1 + 1, 1, none⟩ = some (.int .i64 0) := cell_ext hx1.out (by go_simp)
    have t2 : w1.cell? ⟨w.heap.size + 1 + 1, 2, none⟩ = some (.int .i64 0) := cell_ext hx1.out (by go_simp)
    have t3 : w1.cell? ⟨w.heap.size + 1 + 1, 3, none⟩ = some (.int .i64 0) := cell_ext hx1.out (by go_simp)
    have t4 : w1.cell? ⟨w.heap.size + 1 + 1, 4, none⟩ = some (.int .i64 0) := cell_ext hx1.out (by go_simp)
    have t5 : w1.cell? ⟨w.heap.size + 1 + 1, 5, none⟩ = some (.int .i64 0) := cell_ext hx1.out (by go_simp)
    have t6 : w1.cell? ⟨w.heap.size + 1 + 1, 6, none⟩ = some (.slice none 0 0) := cell_ext hx1.out (by go_simp)
    have u0 : w1.frozen? ⟨w.heap.size + 1 + 1, 0, none⟩ = false := frozen_ext hx1.out (by go_simp) (by go_simp)
    have u1 : w1.frozen? ⟨w.heap.size + 1 + 1, 1, none⟩ = false := frozen_ext hx1.out (by go_simp) (by go_simp)
    have u2 : w1.frozen? ⟨w.heap.size + 1 + 1, 2, none⟩ = false := frozen_ext hx1.out (by go_simp) (by go_simp)
    have u3 : w1.frozen? ⟨w.heap.size + 1 + 1, 3, none⟩ = false := frozen_ext hx1.out (by go_simp) (by go_simp)
    have u4 : w1.frozen? ⟨w.heap.size + 1 + 1, 4, none⟩ = false := frozen_ext hx1.out (by go_simp) (by go_simp)
    have u5 : w1.frozen? ⟨w.heap.size + 1 + 1, 5, none⟩ = false := frozen_ext hx1.out (by go_simp) (by go_simp)
    have u6 : w1.frozen? ⟨w.heap.size + 1 + 1, 6, none⟩ = false := frozen_ext hx1.out (by go_simp) (by go_simp)
    have hrl1 := cell_lt t0
    by_cases hz : frmChk ⟨o, peer, o, li, nu, 0, [fstPrt cnt s0 s1]⟩ = 0
    · rw [hz]
      go_wp2
      refine bodyPost_ret (v := .tuple #[.agg #[.int .i64 o, .int .i64 peer, .int .i64 o, .int .i64 li, .int .i64 nu, .int .i64 0, .slice (some ⟨_, 0, none⟩) 1 1], .int .i64 0]) (by unfold results; rw [Try.results53]; go_simp; rfl) rfl ⟨fun _ => ⟨_, rfl, ?_⟩, fun h => absurd hz h, ?_⟩
      · exact prtSl_one (p := fstPrt cnt s0 s1) (sv := .slice none 0 0) ⟨by simp only [fstPrt]; go_simp, by simp only [fstPrt]; go_simp, by simp only [fstPrt]; go_simp, by simp only [fstPrt]; go_simp, by simp only [fstPrt]; go_simp, by simp only [fstPrt]; go_simp, by simp only [fstPrt]; go_simp, by go_simp, entSl_nil _⟩ (Nat.le_refl _)
      · iterate 7 (with_reducible refine Ext.setC ?_ (by omega))
        exact HW.out
    · go_wp2
      refine bodyPost_ret (v := .tuple #[.agg #[.int .i64 0, .int .i64 0, .int .i64 0, .int .i64 0, .int .i64 0, .int .i64 0, .slice none 0 0], .int .i64 _]) (by unfold results; rw [Try.results53]; go_simp) rfl ⟨fun h => absurd h hz, fun _ => rfl, ?_⟩
      · iterate 7 (with_reducible refine Ext.setC ?_ (by omega))
        exact HW.out
  · go_wp2_with fail
    refine (fCheck_any o peer o li nu 0 [fstPrt cnt s0 s1] _ _ (prtSl_one (p := fstPrt cnt s0 s1) (sv := .slice none 0 0) ⟨by simp only [fstPrt]; go_simp, by simp only [fstPrt]; go_simp, by simp only [fstPrt]; go_simp, by simp only [fstPrt]; go_simp, by simp only [fstPrt]; go_simp, by simp only [fstPrt]; go_simp, by simp only [fstPrt]; go_simp, by go_simp, entSl_nil _⟩ (Nat.le_refl _))).mono ?_
    rintro e w1 ⟨rfl, hx1⟩
    have HW := hid_mk (show Ext w w1 from Ext.trans _ _ _ (by repeat (first | (with_reducible exact HV.out) | (with_reducible exact Ext.refl _) | (with_reducible refine Ext.setC ?_ (by omega)) | (with_reducible apply Ext.drew) | (with_reducible apply Ext.alloc))) hx1)
    have hc1 := hx1.hc; have hl1 := hx1.hl; have he1 := hx1.hle; have hn1 := hx1.hne; replace hx1 := hid_mk hx1
    have t0 : w1.cell? ⟨w.heap.size + 1 + 1, 0, none⟩ = some (.int .i64 0) := cell_ext hx1.out (by go_simp)
    have t1 : w1.cell? ⟨w.heap.size + 1 + 1, 1, none⟩ = some (.int .i64 0) := cell_ext hx1.out (by go_simp)
    have t2 : w1.cell? ⟨w.heap.size + 1 + 1, 2, none⟩ = some (.int .i64 0) := cell_ext hx1.out (by go_simp)
    have t3 : w1.cell? ⟨w.heap.size + 1 + 1, 3, none⟩ = some (.int .i64 0) := cell_ext hx1.out (by go_simp)
    have t4 : w1.cell? ⟨w.heap.size + 1 + 1, 4, none⟩ = some (.int .i64 0) := cell_ext hx1.out (by go_simp)
    have t5 : w1.cell? ⟨w.heap.size + 1 + 1, 5, none⟩ = some (.int .i64 0) := cell_ext hx1.out (by go_simp)
    have t6 : w1.cell? ⟨w.heap.size + 1 + 1, 6, none⟩ = some (.slice none 0 0) := cell_ext hx1.out (by go_simp)
    have u0 : w1.frozen? ⟨w.heap.size + 1 + 1, 0, none⟩ = false := frozen_ext hx1.out (by go_simp) (by go_simp)
    have u1 : w1.frozen? ⟨w.heap.size + 1 + 1, 1, none⟩ = false := frozen_ext hx1.out (by go_simp) (by go_simp)
    have u2 : w1.frozen? ⟨w.heap.size + 1 + 1, 2, none⟩ = false := frozen_ext hx1.out (by go_simp) (by go_simp)
    have u3 : w1.frozen? ⟨w.heap.size + 1 + 1, 3, none⟩ = false := frozen_ext hx1.out (by go_simp) (by go_simp)
    have u4 : w1.frozen? ⟨w.heap.size + 1 + 1, 4, none⟩ = false := frozen_ext hx1.out (by go_simp) (by go_simp)
    have u5 : w1.frozen? ⟨w.heap.size + 1 + 1, 5, none⟩ = false := frozen_ext hx1.out (by go_simp) (by go_simp)
    have u6 : w1.frozen? ⟨w.heap.size + 1 + 1, 6, none⟩ = false := frozen_ext hx1.out (by go_simp) (by go_simp)
    have hrl1 := cell_lt t0
    by_cases hz : frmChk ⟨o, peer, o, li, nu, 0, [fstPrt cnt s0 s1]⟩ = 0
    · rw [hz]
      go_wp2
      refine bodyPost_ret (v := .tuple #[.agg #[.int .i64 o, .int .i64 peer, .int .i64 o, .int .i64 li, .int .i64 nu, .int .i64 0, .slice (some ⟨_, 0, none⟩) 1 1], .int .i64 0]) (by unfold results; rw [Try.results53]; go_simp; rfl) rfl ⟨fun _ => ⟨_, rfl, ?_⟩, fun h => absurd hz h, ?_⟩
      · exact prtSl_one (p := fstPrt cnt s0 s1) (sv := .slice none 0 0) ⟨by simp only [fstPrt]; go_simp, by simp only [fstPrt]; go_simp, by simp only [fstPrt]; go_simp, by simp only [fstPrt]; go_simp, by simp only [fstPrt]; go_simp, by simp only [fstPrt]; go_simp, by simp only [fstPrt]; go_simp, by go_simp, entSl_nil _⟩ (Nat.le_refl _)
      · iterate 7 (with_reducible refine Ext.setC ?_ (by omega))
        exact HW.out
    · go_wp2
      refine bodyPost_ret (v := .tuple #[.agg #[.int .i64 0, .int .i64 0, .int .i64 0, .int .i64 0, .int .i64 0, .int .i64 0, .slice none 0 0], .int .i64 _]) (by unfold results; rw [Try.results53]; go_simp) rfl ⟨fun h => absurd h hz, fun _ => rfl, ?_⟩
      · iterate 7 (with_reducible refine Ext.setC ?_ (by omega))
        exact HW.out
end Go.Proofs.Ytgglbohcnlcagaa
