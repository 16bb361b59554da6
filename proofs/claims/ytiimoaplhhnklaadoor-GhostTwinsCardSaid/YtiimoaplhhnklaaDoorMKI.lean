/- Cuts: where the parts begin. Cuts: the keys at which the parts begin. Cuts: a range is split at borders. -/
import Derived.Test.YtiimoaplhhnklaaDoorMKF
import Derived.Laws.OwnMore
namespace Go.Proofs.YtiimoaplhhnklaaDoor
open Go.RowKit Go.Lib
set_option maxHeartbeats 4000000
set_option maxRecDepth 100000
set_option linter.unusedSimpArgs false
set_option linter.unusedVariables false
attribute [-go_sem] Builtin.append_

theorem r7Rise_any {w : World} (ks : List ByteArray) (v : Value) (hs : GSl cK 1 w v ks) (hk : KeysOk ks) :
    Calls Tryd.prog 58 #[v] w fun e w' => e = .returned (.int .i64 0) ∧ Ext w w' := by
  obtain ⟨a, c, rfl, hlc, hcells⟩ := hs
  have HC := hid_mk (fun (wr : World) hp hx => gsl_cK (wr := wr) hcells hp hx)
  have HK := hid_mk hk
  have hn := hk.n
  clear hcells hk
  go_enter Tryd.func58, Tryd.ntmps58
  go_wp2
  go_loopw [3] (fun i wr => ∃ k : Nat, k ≤ ks.length ∧ i = .int .i64 (k : Int) ∧ Ext w wr) (fun i _ => ks.length - (intOf i).toNat)
  case atStart => exact ⟨0, Nat.zero_le _, rfl, Ext.refl _⟩
  case round =>
    obtain ⟨k, hkl, rfl, hx⟩ := hrel
    have HX := hid_mk hx
    clear hx
    by_cases hlt : k < ks.length
    · obtain ⟨b, o, rfl, hcl⟩ := HC.out wr (by omega) HX.out
      have a0 := hcl k hlt
      have hbl := cell_lt a0
      have hz := HK.out.z ks[k] (List.getElem_mem hlt)
      obtain ⟨y, hy⟩ : ∃ y, ks[k] = y := ⟨_, rfl⟩
      rw [hy] at a0 hz
      have hz' : ¬ (16 : Int) < (y.size : Int) := by omega
      have hk1 : (k : Int) < (ks.length : Int) := by omega
      have hk0 : (0 : Int) ≤ (k : Int) := by omega
      have HW := hid_mk (show wrap64 ((k : Int) + 1) = (k : Int) + 1 from w64in (by omega))
      clear hcl hy
      go_wp2
      go_roundw
      case rel => exact ⟨k + 1, hlt, (by first | exact congrArg (Value.int .i64) HW.out | rfl), HX.out⟩
      case measure => (try simp only [HW.out]); simp [intOf]; omega
    · obtain rfl : k = ks.length := by omega
      have hmm : ¬ ((ks.length : Nat) : Int) < (ks.length : Int) := by omega
      go_wp2_with fail
      go_loopw [4] (fun i wr2 => ∃ k : Nat, k ≤ 300 ∧ i = .int .i64 (k : Int) ∧ 1 ≤ k ∧ Ext wr wr2) (fun i _ => 301 - (intOf i).toNat)
      case atStart => exact ⟨1, by omega, rfl, Nat.le_refl _, Ext.refl _⟩
      case round =>
        obtain ⟨k, hk3, rfl, hk1, hx⟩ := hrel
        have HX2 := hid_mk hx
        clear hx
        by_cases hlt2 : k < ks.length
        · obtain ⟨b, o, rfl, hcl⟩ := HC.out wr (by omega) (Ext.trans _ _ _ HX.out HX2.out)
          have HW := hid_mk (show wrap64 ((k : Int) + 1) = (k : Int) + 1 from w64in (by omega))
          obtain ⟨m, rfl⟩ : ∃ m, k = m + 1 := ⟨k - 1, by omega⟩
          have a0 := hcl (m + 1) hlt2
          have b0 := hcl m (by omega)
          have hbl := cell_lt a0
          have hr := HK.out.r m hlt2
          have hr2 := bl_asymm hr
          have hr3 := bl_ne hr
          obtain ⟨y, hy⟩ : ∃ y, ks[m + 1] = y := ⟨_, rfl⟩
          obtain ⟨x, hxx⟩ : ∃ x, ks[m] = x := ⟨_, rfl⟩
          rw [hy] at a0 hr hr2 hr3
          rw [hxx] at b0 hr hr2 hr3
          have hr4 : (y.toList == x.toList) = false := by rw [beq_eq_false_iff_ne]; exact fun e => hr3 e.symm
          clear hcl hy hxx
          have hk1' : ((m + 1 : Nat) : Int) < (ks.length : Int) := by omega
          have hm0 : (0 : Int) < (m : Int) + 1 := by omega
          have hm1 : (m : Int) < (ks.length : Int) := by omega
          have hlt4 : IntKind.i64.wrap (m : Int) = m := wrapN m (by omega)
          go_wp2_with fail
          have hx5 := Ext.refl wr
          have hc5 := hx5.hc; have hl5 := hx5.hl; have he5 := hx5.hle; have hn5 := hx5.hne; replace hx5 := hid_mk hx5
          refine wp_region_held_below (fun _ => true) (.quiet 0 (.quiet 1 (.quiet 2 (.quiet 3 (.quiet 4 (.quiet 5 (.quiet 6 (.quiet 7 (.quiet 8 (.quiet 9 .done)))))))))) (by kernel_rfl) (by kernel_rfl) (by intro c a w d v h; cases d <;> exact h) (fun ops HO => ?_)
          refine plan_read _ (hi_of HO rfl) rfl (fun w' hE => by have hcE := (Ext.trans _ _ _ (by (repeat (first | exact hx5.out | apply Ext.drew | apply Ext.alloc))) hE).hc; (repeat (with_reducible replace hE := Ext.unD hE)); have hcF := hE.hc; clear hE; go_simp; rfl) ?_
          simp only [Act.put, List.setIfInBounds_toArray, List.set_cons_succ, List.set_cons_zero]
          refine plan_read _ (hi_of HO rfl) rfl (fun w' hE => by have hcE := (Ext.trans _ _ _ (by (repeat (first | exact hx5.out | apply Ext.drew | apply Ext.alloc))) hE).hc; (repeat (with_reducible replace hE := Ext.unD hE)); have hcF := hE.hc; clear hE; go_simp; rfl) ?_
          simp only [Act.put, List.setIfInBounds_toArray, List.set_cons_succ, List.set_cons_zero]
          refine plan_read _ (hi_of HO rfl) rfl (fun w' hE => by have hcE := (Ext.trans _ _ _ (by (repeat (first | exact hx5.out | apply Ext.drew | apply Ext.alloc))) hE).hc; (repeat (with_reducible replace hE := Ext.unD hE)); have hcF := hE.hc; clear hE; go_simp; rfl) ?_
          simp only [Act.put, List.setIfInBounds_toArray, List.set_cons_succ, List.set_cons_zero]
          refine plan_read _ (hi_of HO rfl) rfl (fun w' hE => by have hcE := (Ext.trans _ _ _ (by (repeat (first | exact hx5.out | apply Ext.drew | apply Ext.alloc))) hE).hc; (repeat (with_reducible replace hE := Ext.unD hE)); have hcF := hE.hc; clear hE; go_simp; rfl) ?_
          simp only [Act.put, List.setIfInBounds_toArray, List.set_cons_succ, List.set_cons_zero]
          refine plan_read _ (hi_of HO rfl) rfl (fun w' hE => by have hcE := (Ext.trans _ _ _ (by (repeat (first | exact hx5.out | apply Ext.drew | apply Ext.alloc))) hE).hc; (repeat (with_reducible replace hE := Ext.unD hE)); have hcF := hE.hc; clear hE; go_simp; rfl) ?_
          simp only [Act.put, List.setIfInBounds_toArray, List.set_cons_succ, List.set_cons_zero]
          refine plan_read _ (hi_of HO rfl) rfl (fun w' hE => by have hcE := (Ext.trans _ _ _ (by (repeat (first | exact hx5.out | apply Ext.drew | apply Ext.alloc))) hE).hc; (repeat (with_reducible replace hE := Ext.unD hE)); have hcF := hE.hc; clear hE; go_simp; rfl) ?_
          simp only [Act.put, List.setIfInBounds_toArray, List.set_cons_succ, List.set_cons_zero]
          refine plan_read _ (hi_of HO rfl) rfl (fun w' hE => by have hcE := (Ext.trans _ _ _ (by (repeat (first | exact hx5.out | apply Ext.drew | apply Ext.alloc))) hE).hc; (repeat (with_reducible replace hE := Ext.unD hE)); have hcF := hE.hc; clear hE; go_simp; rfl) ?_
          simp only [Act.put, List.setIfInBounds_toArray, List.set_cons_succ, List.set_cons_zero]
          refine plan_read _ (hi_of HO rfl) rfl (fun w' hE => by have hcE := (Ext.trans _ _ _ (by (repeat (first | exact hx5.out | apply Ext.drew | apply Ext.alloc))) hE).hc; (repeat (with_reducible replace hE := Ext.unD hE)); have hcF := hE.hc; clear hE; go_simp; rfl) ?_
          simp only [Act.put, List.setIfInBounds_toArray, List.set_cons_succ, List.set_cons_zero]
          refine plan_read _ (hi_of HO rfl) rfl (fun w' hE => by have hcE := (Ext.trans _ _ _ (by (repeat (first | exact hx5.out | apply Ext.drew | apply Ext.alloc))) hE).hc; (repeat (with_reducible replace hE := Ext.unD hE)); have hcF := hE.hc; clear hE; go_simp; rfl) ?_
          simp only [Act.put, List.setIfInBounds_toArray, List.set_cons_succ, List.set_cons_zero]
          refine plan_read _ (hi_of HO rfl) rfl (fun w' hE => by have hcE := (Ext.trans _ _ _ (by (repeat (first | exact hx5.out | apply Ext.drew | apply Ext.alloc))) hE).hc; (repeat (with_reducible replace hE := Ext.unD hE)); have hcF := hE.hc; clear hE; go_simp; rfl) ?_
          simp only [Act.put, List.setIfInBounds_toArray, List.set_cons_succ, List.set_cons_zero]
          refine plan_done ?fin101
          go_wp2
          clear hlt4
          go_roundw
          case rel => exact ⟨m + 1 + 1, by omega, (by first | exact congrArg (Value.int .i64) HW.out | rfl), by omega, Ext.trans _ _ _ HX2.out (by (repeat (first | exact Ext.refl _ | apply Ext.drew_left | apply Ext.drew | apply Ext.alloc)))⟩
          case measure => (try simp only [HW.out]); simp [intOf]; omega
        · have hmm : ¬ ((k : Nat) : Int) < (ks.length : Int) := by omega
          go_wp2
          go_ret
          exact ⟨rfl, Ext.trans _ _ _ HX.out HX2.out⟩
def startsL (n p : Nat) : List Int := (List.range p).map fun j => ((j * n / p : Nat) : Int)
def startsTo (n p k : Nat) : List Int := (List.range k).map fun j => ((j * n / p : Nat) : Int)
theorem startsTo_succ (n p k : Nat) : startsTo n p (k + 1) = startsTo n p k ++ [((k * n / p : Nat) : Int)] := by unfold startsTo; rw [List.range_succ, List.map_append]; rfl
theorem startsTo_len (n p k : Nat) : (startsTo n p k).length = k := by unfold startsTo; simp
theorem r7Starts_any {w : World} (n p : Nat) (h1 : 1 ≤ p) (h2 : p ≤ n) (h3 : n ≤ 256) :
    Calls Tryd.prog 71 #[.int .i64 (n : Int), .int .i64 (p : Int)] w fun e w' => ∃ v, e = .returned (.tuple #[v, .int .i64 0]) ∧ OwG 3 1 cI w' w.heap.size v (startsL n p) ∧ Ext w w' := by
  have i1 : ¬ (n : Int) < 1 := by omega
  have i2 : ¬ (256 : Int) < (n : Int) := by omega
  have i3 : ¬ (p : Int) < 1 := by omega
  have i4 : ¬ (n : Int) < (p : Int) := by omega
  go_enter Tryd.func71, Tryd.ntmps71
  go_wp2_with fail
  go_loopw [6, 7] (fun v i wr => ∃ k : Nat, k ≤ p ∧ i = .int .i64 (k : Int) ∧ Ext w wr ∧ OwG 3 1 cI wr w.heap.size v (startsTo n p k)) (fun _ i _ => p - (intOf i).toNat)
  case atStart => exact ⟨0, Nat.zero_le _, rfl, by (repeat (first | exact Ext.refl _ | apply Ext.drew_left | apply Ext.drew | apply Ext.alloc)), ownG_empty (heap_alloc_new w (.cells #[] 3)) (Nat.le_refl _)⟩
  case round =>
    obtain ⟨k, hk, rfl, hx, ho⟩ := hrel
    have HX := hid_mk hx
    have HO := hid_mk ho
    clear hx ho
    by_cases hlt : k < p
    · have hk1 : (k : Int) < (p : Int) := by omega
      have hk0 : (0 : Int) ≤ (k : Int) := by omega
      have HW := hid_mk (show wrap64 ((k : Int) + 1) = (k : Int) + 1 from w64in (by omega))
      have hkn : (k : Int) * (n : Int) ≤ 65536 := by
        have h := Nat.mul_le_mul (show k ≤ 256 by omega) h3
        rw [← Int.natCast_mul]
        omega
      have hkn0 : (0 : Int) ≤ (k : Int) * (n : Int) := by rw [← Int.natCast_mul]; omega
      have hp0 : ¬ (p : Int) = 0 := by omega
      have hx1 : Ext wr (wr.alloc (.cells #[.int .i64 ((k : Int) * (n : Int) / (p : Int))] 3)) := by (repeat (first | exact Ext.refl _ | apply Ext.drew_left | apply Ext.drew | apply Ext.alloc))
      have hce : (k : Int) * (n : Int) / (p : Int) = ((k * n / p : Nat) : Int) := by rw [Int.natCast_ediv, Int.natCast_mul]
      obtain ⟨v', w', hrun, ho, hg, hob⟩ := appendG okI (w := wr.alloc (.cells #[.int .i64 ((k : Int) * (n : Int) / (p : Int))] 3)) (lv := .slice (some ⟨wr.heap.size, 0, none⟩) 1 1) (L := [((k * n / p : Nat) : Int)]) (HO.out.ext hx1) (OwG.sl (B := wr.heap.size) (t := 3) Nat.one_pos (fun _ => rfl) (ownG_new (by rw [← hce]; rfl) (heap_alloc_new wr _) (Nat.le_refl _))) (by rw [startsTo_len]; simp; omega) (by have := HX.out.below.size; simp; omega)
      have HB := hid_mk (show Ext w w' ∧ OwG 3 1 cI w' w.heap.size v' (startsTo n p (k + 1)) by rw [startsTo_succ]; exact ⟨ext_grown (Ext.trans _ _ _ HX.out hx1) hg (HO.out.ext hx1) (Nat.le_refl _), ho⟩)
      clear ho hg hob hx1 hce
      go_wp2
      go_roundw
      case rel => exact ⟨k + 1, hlt, (by first | exact congrArg (Value.int .i64) HW.out | rfl), HB.out.1, HB.out.2⟩
      case measure => (try simp only [HW.out]); simp [intOf]; omega
    · obtain rfl : k = p := by omega
      have hmm : ¬ ((k : Nat) : Int) < (k : Int) := by omega
      go_wp2
      refine bodyPost_ret (v := .tuple #[u6, .int .i64 0]) (by unfold results; rw [Tryd.results71]; go_simp; first | done | rfl) rfl ⟨_, rfl, HO.out, HX.out⟩
theorem int_infoI : ∃ i z, Tryd.prog.info? 3 = some i ∧ i.size = 1 ∧ i.bytes ≤ 128 ∧ i.zero = some z ∧ z.cells = #[.int .i64 0] := ⟨_, _, rfl, rfl, by decide, rfl, rfl⟩
theorem made_zeros (p : Nat) : (madeCells #[.int .i64 0] (p * 1)).toList = (List.replicate p (0 : Int)).flatMap cI := by
  have e1 : ∀ p : Nat, (List.replicate p (0 : Int)).flatMap cI = List.replicate p (.int .i64 0) := fun p => by
    induction p with
    | zero => rfl
    | succ p ih => rw [List.replicate_succ, List.flatMap_cons, ih, List.replicate_succ]; rfl
  rw [e1, madeCells, Array.toList_map, Array.toList_range]
  refine List.eq_replicate_iff.2 ⟨by simp, fun b hb => ?_⟩
  obtain ⟨i, -, rfl⟩ := List.mem_map.1 hb
  rw [show (#[Value.int .i64 0] : Array Value).size = 1 from rfl, Nat.mod_one]
  rfl
theorem cStarts_any {w : World} (n p : Nat) (h1 : 1 ≤ p) (h2 : p ≤ n) (h3 : n ≤ 256) :
    Calls Tryd.prog 74 #[.int .i64 (n : Int), .int .i64 (p : Int)] w fun e w' => ∃ v, e = .returned (.tuple #[v, .int .i64 0]) ∧ OwG 3 1 cI w' w.heap.size v (startsL n p) ∧ Ext w w' := by
  have i1 : ¬ (n : Int) < 1 := by omega
  have i2 : ¬ (256 : Int) < (n : Int) := by omega
  have i3 : ¬ (p : Int) < 1 := by omega
  have i4 : ¬ (n : Int) < (p : Int) := by omega
  obtain ⟨i0, z0, hinf, hs, hby, hz, hcc⟩ := int_infoI
  obtain ⟨W1, hrun, ho, hg⟩ := run_makeSlice_full w (P := Tryd.prog) w.heap.size 101 3 i0 z0 1 Tryd.underlying101 hinf hz hs .i64 .i64 p (by omega) (by have : i0.bytes * p ≤ 128 * 256 := Nat.mul_le_mul hby (by omega); omega) (by unfold maxLen; omega) (Nat.le_refl _)
  rw [hcc, made_zeros] at ho
  have HO1 := hid_mk (show OwG 3 1 cI W1 w.heap.size (.slice (some ⟨w.heap.size, 0, none⟩) p p) (startsTo n p 0 ++ List.replicate p 0) by unfold OwG; rw [show startsTo n p 0 = [] from rfl, List.nil_append, List.length_replicate]; exact ho)
  have HX1 := hid_mk (show Ext w W1 from Ext.of ⟨hg.os, hg.tape, hg.output, hg.size, fun k hk => hg.block k hk (by simp)⟩)
  clear ho hg hinf hs hby hz hcc
  go_enter Tryd.func74, Tryd.ntmps74
  go_wp2_with fail
  go_loopw [27] (fun i wr => ∃ k : Nat, k ≤ p ∧ i = .int .i64 (k : Int) ∧ Ext w wr ∧ OwG 3 1 cI wr w.heap.size (.slice (some ⟨w.heap.size, 0, none⟩) p p) (startsTo n p k ++ List.replicate (p - k) 0)) (fun i _ => p - (intOf i).toNat)
  case atStart => exact ⟨0, Nat.zero_le _, rfl, HX1.out, HO1.out⟩
  case round =>
    clear HX1 HO1 hrun
    obtain ⟨k, hk, rfl, hx, ho⟩ := hrel
    have HX := hid_mk hx
    have HO := hid_mk ho
    clear hx ho
    by_cases hlt : k < p
    · have hk1 : (k : Int) < (p : Int) := by omega
      have hk0 : (0 : Int) ≤ (k : Int) := by omega
      have HW := hid_mk (show wrap64 ((k : Int) + 1) = (k : Int) + 1 from w64in (by omega))
      have hkn : (k : Int) * (n : Int) ≤ 65536 := by
        have h := Nat.mul_le_mul (show k ≤ 256 by omega) h3
        rw [← Int.natCast_mul]
        omega
      have hkn0 : (0 : Int) ≤ (k : Int) * (n : Int) := by rw [← Int.natCast_mul]; omega
      have hp0 : ¬ (p : Int) = 0 := by omega
      have HCE := hid_mk (show (k : Int) * (n : Int) / (p : Int) = ((k * n / p : Nat) : Int) by rw [Int.natCast_ediv, Int.natCast_mul])
      have HLN := hid_mk (show (startsTo n p k ++ List.replicate (p - k) 0).length = p by rw [List.length_append, startsTo_len, List.length_replicate]; omega)
      have c0 : wr.cell? ⟨w.heap.size, k, none⟩ = some (.int .i64 0) := OwG.cell1 (fun _ => rfl) HO.out rfl (by rw [List.getElem?_append_right (by rw [startsTo_len]; omega), startsTo_len, Nat.sub_self, List.getElem?_replicate, if_pos (by omega)]) rfl
      have f0 : wr.frozen? ⟨w.heap.size, k, none⟩ = false := own_frozen HO.out rfl _
      have cl := cell_lt c0
      have HSE := hid_mk (show (startsTo n p k ++ List.replicate (p - k) 0).set k ((k * n / p : Nat) : Int) = startsTo n p (k + 1) ++ List.replicate (p - (k + 1)) 0 by
        obtain ⟨q, hq⟩ : ∃ q, p - k = q + 1 := ⟨p - k - 1, by omega⟩
        rw [List.set_append_right _ _ (by rw [startsTo_len]; omega), startsTo_len, Nat.sub_self, startsTo_succ, hq, show p - (k + 1) = q by omega, List.replicate_succ, List.set_cons_zero, List.append_assoc]
        rfl)
      go_wp2
      go_roundw
      case rel =>
        refine ⟨k + 1, hlt, (by first | exact congrArg (Value.int .i64) HW.out | rfl), Xl.ext HX.out (L := [w.heap.size]) ((Xl.refl wr).set (by simp)) (by simp), ?_⟩
        rw [← HSE.out, HCE.out]
        have h := OwG.set1 (f := cI) (fun _ => rfl) (show OwG 3 1 cI wr w.heap.size (.slice (some ⟨w.heap.size, 0, none⟩) (startsTo n p k ++ List.replicate (p - k) 0).length p) (startsTo n p k ++ List.replicate (p - k) 0) by rw [HLN.out]; exact HO.out) (i := k) (x := ((k * n / p : Nat) : Int)) (by rw [HLN.out]; exact hlt) rfl
        rw [List.length_set, HLN.out] at h
        exact h
      case measure => (try simp only [HW.out]); simp [intOf]; omega
    · obtain rfl : k = p := by omega
      have hmm : ¬ ((k : Nat) : Int) < (k : Int) := by omega
      rw [Nat.sub_self, List.replicate_zero, List.append_nil] at HO
      go_wp2
      refine bodyPost_ret (v := .tuple #[.slice (some ⟨w.heap.size, 0, none⟩) k k, .int .i64 0]) (by unfold results; rw [Tryd.results74]; go_simp; first | done | rfl) rfl ⟨_, rfl, HO.out, HX.out⟩
end Go.Proofs.YtiimoaplhhnklaaDoor
namespace Go.Proofs.YtiimoaplhhnklaaDoor
open Go.RowKit Go.Lib
set_option maxHeartbeats 4000000
set_option maxRecDepth 100000
set_option linter.unusedSimpArgs false
set_option linter.unusedVariables false
attribute [-go_sem] Builtin.append_

def bordTo (ks : List ByteArray) (p k : Nat) : List ByteArray := (List.range k).map fun j => ks.getD ((j + 1) * ks.length / p) ⟨#[]⟩
def bordersL (ks : List ByteArray) (p : Nat) : List ByteArray := bordTo ks p (p - 1)
theorem bordTo_succ (ks : List ByteArray) (p k : Nat) : bordTo ks p (k + 1) = bordTo ks p k ++ [ks.getD ((k + 1) * ks.length / p) ⟨#[]⟩] := by unfold bordTo; rw [List.range_succ, List.map_append]; rfl
theorem bordTo_len (ks : List ByteArray) (p k : Nat) : (bordTo ks p k).length = k := by unfold bordTo; simp
theorem start_lt {n p j : Nat} (hj : j < p) (hn : 0 < n) : j * n / p < n := by
  have hp : 0 < p := by omega
  rw [Nat.div_lt_iff_lt_mul hp, Nat.mul_comm n p]
  exact Nat.mul_lt_mul_of_pos_right hj hn
theorem cBorders_any {w : World} (ks : List ByteArray) (v : Value) (p : Nat) (hs : GSl cK 1 w v ks) (hk : KeysOk ks) (h1 : 1 ≤ p) (h2 : p ≤ ks.length) :
    Calls Tryd.prog 66 #[v, .int .i64 (p : Int)] w fun e w' => ∃ v, e = .returned (.tuple #[v, .int .i64 0]) ∧ OwS w' w.heap.size v (bordersL ks p) ∧ Ext w w' := by
  have HS := hid_mk hs
  have HK := hid_mk hk
  have hn := hk.n
  obtain ⟨a, c, rfl, hlc, hcells⟩ := hs
  have HC := hid_mk (fun (wr : World) hp hx => gsl_cK (wr := wr) hcells hp hx)
  clear hcells hk
  go_enter Tryd.func66, Tryd.ntmps66
  go_wp2_with fail
  refine (cCheck_any ks _ HS.out HK.out).mono ?_
  rintro e w1 ⟨rfl, hx⟩
  have HX1 := hid_mk hx
  clear hx
  go_wp2_with fail
  refine (cStarts_any ks.length p h1 h2 hn).mono ?_
  rintro e w2 ⟨sv, rfl, ho, hx⟩
  have HX2 := hid_mk (Ext.trans _ _ _ HX1.out hx)
  obtain ⟨sg, sc, hsv, hslc, -, -, -⟩ := OwG.at (t := 3) (k := 1) (f := cI) Nat.one_pos (fun _ => rfl) ho (by rw [startsL, List.length_map, List.length_range]; omega)
  have HSL := hid_mk (show (startsL ks.length p).length = p by rw [startsL, List.length_map, List.length_range])
  rw [HSL.out] at hsv hslc
  have HSC := hid_mk (fun (W : World) (hx : Ext w2 W) (j : Nat) (hj : j < p) => (show W.cell? ⟨sg, j, none⟩ = some (.int .i64 ((j * ks.length / p : Nat) : Int)) from cell_ext hx (OwG.cell1 (fun _ => rfl) ho hsv (x := ((j * ks.length / p : Nat) : Int)) (by rw [startsL, List.getElem?_map, List.getElem?_range hj]; rfl) rfl)))
  subst hsv
  clear ho hx HX1
  by_cases hp1 : p = 1
  · subst hp1
    by_cases hsc : 1 < sc
    · skip
      go_wp2_with fail
      go_loopw [9, 30] (fun v i wr => v = .slice none 0 0 ∧ i = .int .i64 0 ∧ Ext w2 wr) (fun _ _ _ => 0)
      case atStart => exact ⟨rfl, rfl, Ext.refl _⟩
      case round =>
        obtain ⟨rfl, rfl, hx⟩ := hrel
        have HX := hid_mk hx
        clear hx
        go_wp2
        refine bodyPost_ret (v := .tuple #[.slice none 0 0, .int .i64 0]) (by unfold results; rw [Tryd.results66]; go_simp; first | done | rfl) rfl ⟨_, rfl, ownS_nil _ _, Ext.trans _ _ _ HX2.out HX.out⟩
    · obtain rfl : sc = 1 := by omega
      go_wp2_with fail
      go_loopw [9, 30] (fun v i wr => v = .slice none 0 0 ∧ i = .int .i64 0 ∧ Ext w2 wr) (fun _ _ _ => 0)
      case atStart => exact ⟨rfl, rfl, Ext.refl _⟩
      case round =>
        obtain ⟨rfl, rfl, hx⟩ := hrel
        have HX := hid_mk hx
        clear hx
        go_wp2
        refine bodyPost_ret (v := .tuple #[.slice none 0 0, .int .i64 0]) (by unfold results; rw [Tryd.results66]; go_simp; first | done | rfl) rfl ⟨_, rfl, ownS_nil _ _, Ext.trans _ _ _ HX2.out HX.out⟩
  have hsc : 1 < sc := by omega
  have hpn : 1 < p := by omega
  obtain ⟨q, hq⟩ : ∃ q, p - 1 = q := ⟨_, rfl⟩
  have HBL := hid_mk (show bordersL ks p = bordTo ks p q by rw [bordersL, hq])
  go_wp2_with fail
  go_loopw [9, 30] (fun v i wr => ∃ k : Nat, k ≤ q ∧ i = .int .i64 (k : Int) ∧ Ext w2 wr ∧ OwS wr w2.heap.size v (bordTo ks p k)) (fun _ i _ => q - (intOf i).toNat)
  case atStart => exact ⟨0, Nat.zero_le _, rfl, Ext.refl _, ownS_nil _ _⟩
  case round =>
    obtain ⟨k, hk, rfl, hx, ho⟩ := hrel
    have HX := hid_mk hx
    have HO := hid_mk ho
    clear hx ho
    by_cases hlt : k < q
    · have hk1 : (k : Int) < (q : Int) := by omega
      have hk0 : (0 : Int) ≤ (k : Int) := by omega
      have hsl : (k + 1) * ks.length / p < ks.length := start_lt (by omega) (by omega)
      obtain ⟨b, o, rfl, hcl⟩ := HC.out wr (by omega) (Ext.trans _ _ _ HX2.out HX.out)
      have a0 := hcl _ hsl
      have s0 := HSC.out wr HX.out (k + 1) (by omega)
      have HT := hid_mk (show bordTo ks p (k + 1) = bordTo ks p k ++ [ks[(k + 1) * ks.length / p]] by rw [bordTo_succ, List.getD_eq_getElem?_getD, List.getElem?_eq_getElem hsl]; rfl)
      obtain ⟨y, hy⟩ : ∃ y, ks[(k + 1) * ks.length / p] = y := ⟨_, rfl⟩
      rw [hy] at a0 HT
      obtain ⟨S, hS⟩ : ∃ S, (k + 1) * ks.length / p = S := ⟨_, rfl⟩
      rw [hS] at a0 s0 hsl
      clear hcl hy hS
      have hsi : (S : Int) < (ks.length : Int) := by omega
      have hbl := cell_lt a0
      have hsgl := cell_lt s0
      have HW := hid_mk (show wrap64 ((k : Int) + 1) = (k : Int) + 1 from w64in (by omega))
      have hx1 : Ext wr (wr.alloc (.cells #[.string y] 9)) := by (repeat (first | exact Ext.refl _ | apply Ext.drew_left | apply Ext.drew | apply Ext.alloc))
      obtain ⟨v', w', hrun, ho, hg, hob⟩ := appendS (w := wr.alloc (.cells #[.string y] 9)) (HO.out.ext hx1) (heap_alloc_new wr _) (by rw [bordTo_len]; omega) (by have := HX.out.below.size; simp; omega)
      have HB := hid_mk (show Ext w2 w' ∧ OwS w' w2.heap.size v' (bordTo ks p (k + 1)) by rw [HT.out]; exact ⟨ext_grown (Ext.trans _ _ _ HX.out hx1) hg (HO.out.ext hx1) (Nat.le_refl _), ho⟩)
      clear ho hg hob hx1
      rw [Nat.add_comm k 1] at s0
      go_wp2
      go_roundw
      case rel => exact ⟨k + 1, hlt, (by first | exact congrArg (Value.int .i64) HW.out | rfl), HB.out.1, HB.out.2⟩
      case measure => (try simp only [HW.out]); simp [intOf]; omega
    · obtain rfl : k = q := by omega
      have hmm : ¬ ((k : Nat) : Int) < (k : Int) := by omega
      go_wp2
      refine bodyPost_ret (v := .tuple #[u9, .int .i64 0]) (by unfold results; rw [Tryd.results66]; go_simp; first | done | rfl) rfl ⟨_, rfl, by rw [HBL.out]; exact HO.out.lower HX2.out.below.size, Ext.trans _ _ _ HX2.out HX.out⟩
theorem r7Borders_any {w : World} (ks : List ByteArray) (v : Value) (p : Nat) (hs : GSl cK 1 w v ks) (hk : KeysOk ks) (h1 : 1 ≤ p) (h2 : p ≤ ks.length) :
    Calls Tryd.prog 60 #[v, .int .i64 (p : Int)] w fun e w' => ∃ v, e = .returned (.tuple #[v, .int .i64 0]) ∧ OwS w' w.heap.size v (bordersL ks p) ∧ Ext w w' := by
  have HS := hid_mk hs
  have HK := hid_mk hk
  have hn := hk.n
  obtain ⟨a, c, rfl, hlc, hcells⟩ := hs
  have HC := hid_mk (fun (wr : World) hp hx => gsl_cK (wr := wr) hcells hp hx)
  clear hcells hk
  go_enter Tryd.func60, Tryd.ntmps60
  go_wp2_with fail
  refine (r7Rise_any ks _ HS.out HK.out).mono ?_
  rintro e w1 ⟨rfl, hx⟩
  have HX1 := hid_mk hx
  clear hx
  go_wp2_with fail
  refine (r7Starts_any ks.length p h1 h2 hn).mono ?_
  rintro e w2 ⟨sv, rfl, ho, hx⟩
  have HX2 := hid_mk (Ext.trans _ _ _ HX1.out hx)
  obtain ⟨sg, sc, hsv, hslc, -, -, -⟩ := OwG.at (t := 3) (k := 1) (f := cI) Nat.one_pos (fun _ => rfl) ho (by rw [startsL, List.length_map, List.length_range]; omega)
  have HSL := hid_mk (show (startsL ks.length p).length = p by rw [startsL, List.length_map, List.length_range])
  rw [HSL.out] at hsv hslc
  have HSC := hid_mk (fun (W : World) (hx : Ext w2 W) (j : Nat) (hj : j < p) => (show W.cell? ⟨sg, j, none⟩ = some (.int .i64 ((j * ks.length / p : Nat) : Int)) from cell_ext hx (OwG.cell1 (fun _ => rfl) ho hsv (x := ((j * ks.length / p : Nat) : Int)) (by rw [startsL, List.getElem?_map, List.getElem?_range hj]; rfl) rfl)))
  subst hsv
  clear ho hx HX1
  obtain ⟨q, hq⟩ : ∃ q, p - 1 = q := ⟨_, rfl⟩
  have HBL := hid_mk (show bordersL ks p = bordTo ks p q by rw [bordersL, hq])
  obtain rfl : p = q + 1 := by omega
  clear hq
  have hE := heap_alloc_new w2 (.cells #[] 9)
  go_wp2_with fail
  go_loopw [9, 10] (fun v i wr => ∃ k : Nat, k ≤ q ∧ i = .int .i64 ((k : Int) + 1) ∧ Ext w2 wr ∧ OwS wr w2.heap.size v (bordTo ks (q + 1) k)) (fun _ i _ => q + 1 - (intOf i).toNat)
  case atStart => exact ⟨0, Nat.zero_le _, rfl, by (repeat (first | exact Ext.refl _ | apply Ext.drew_left | apply Ext.drew | apply Ext.alloc)), ownS_empty hE (Nat.le_refl _)⟩
  case round =>
    clear hE
    obtain ⟨k, hk, rfl, hx, ho⟩ := hrel
    have HX := hid_mk hx
    have HO := hid_mk ho
    clear hx ho
    by_cases hlt : k < q
    · have hk1 : (k : Int) + 1 < (q : Int) + 1 := by omega
      have hk2 : (k : Int) < (q : Int) := by omega
      have hk0 : (0 : Int) ≤ (k : Int) + 1 := by omega
      have hsl : (k + 1) * ks.length / (q + 1) < ks.length := start_lt (by omega) (by omega)
      obtain ⟨b, o, rfl, hcl⟩ := HC.out wr (by omega) (Ext.trans _ _ _ HX2.out HX.out)
      have a0 := hcl _ hsl
      have s0 := HSC.out wr HX.out (k + 1) (by omega)
      have HT := hid_mk (show bordTo ks (q + 1) (k + 1) = bordTo ks (q + 1) k ++ [ks[(k + 1) * ks.length / (q + 1)]] by rw [bordTo_succ, List.getD_eq_getElem?_getD, List.getElem?_eq_getElem hsl]; rfl)
      obtain ⟨y, hy⟩ : ∃ y, ks[(k + 1) * ks.length / (q + 1)] = y := ⟨_, rfl⟩
      rw [hy] at a0 HT
      obtain ⟨S, hS⟩ : ∃ S, (k + 1) * ks.length / (q + 1) = S := ⟨_, rfl⟩
      rw [hS] at a0 s0 hsl
      clear hcl hy hS
      have hsi : (S : Int) < (ks.length : Int) := by omega
      have hbl := cell_lt a0
      have hsgl := cell_lt s0
      have HW := hid_mk (show wrap64 ((k : Int) + 1 + 1) = ((k + 1 : Nat) : Int) + 1 by rw [w64in (by omega)]; omega)
      have hx1 : Ext wr (wr.alloc (.cells #[.string y] 9)) := by (repeat (first | exact Ext.refl _ | apply Ext.drew_left | apply Ext.drew | apply Ext.alloc))
      obtain ⟨v', w', hrun, ho, hg, hob⟩ := appendS (w := wr.alloc (.cells #[.string y] 9)) (HO.out.ext hx1) (heap_alloc_new wr _) (by rw [bordTo_len]; omega) (by have := HX.out.below.size; simp; omega)
      have HB := hid_mk (show Ext w2 w' ∧ OwS w' w2.heap.size v' (bordTo ks (q + 1) (k + 1)) by rw [HT.out]; exact ⟨ext_grown (Ext.trans _ _ _ HX.out hx1) hg (HO.out.ext hx1) (Nat.le_refl _), ho⟩)
      clear ho hg hob hx1
      go_wp2
      go_roundw
      case rel => exact ⟨k + 1, hlt, (by first | exact congrArg (Value.int .i64) HW.out | rfl), HB.out.1, HB.out.2⟩
      case measure => (try simp only [HW.out]); simp [intOf]; omega
    · obtain rfl : k = q := by omega
      have hmm : ¬ ((k : Nat) : Int) + 1 < (k : Int) + 1 := by omega
      go_wp2
      refine bodyPost_ret (v := .tuple #[u9, .int .i64 0]) (by unfold results; rw [Tryd.results60]; go_simp; first | done | rfl) rfl ⟨_, rfl, by rw [HBL.out]; exact HO.out.lower HX2.out.below.size, Ext.trans _ _ _ HX2.out HX.out⟩
end Go.Proofs.YtiimoaplhhnklaaDoor
namespace Go.Proofs.YtiimoaplhhnklaaDoor
open Go.RowKit Go.Lib
set_option maxHeartbeats 4000000
set_option maxRecDepth 100000
set_option linter.unusedSimpArgs false
set_option linter.unusedVariables false
attribute [-go_sem] Builtin.append_

structure Rg where
  lo : ByteArray
  hi : ByteArray
  op : Bool
abbrev rgV (r : Rg) : Value := rngV r.lo r.hi r.op
def cR (r : Rg) : List Value := [.string r.lo, .string r.hi, .bool r.op]
theorem okR : TyOk Tryd.prog 61 26 3 cR where
  ht := Tryd.underlying61
  hk := by omega
  hf := fun _ => rfl
  h1 := fun a u hu => by simp [cR] at hu; rcases hu with rfl | rfl | rfl <;> rfl
  info := ⟨_, _, rfl, rfl, by decide, rfl, rfl⟩
  zero := fun w base n cap h x c => by cases base <;> cases x <;> (unfold Builtin.append_; go_simp)
def lowAt (lo : ByteArray) (bs : List ByteArray) : Nat → ByteArray
  | 0 => lo
  | j + 1 => bs.getD j ⟨#[]⟩
def preS (lo : ByteArray) (bs : List ByteArray) (k : Nat) : List Rg := (List.range k).map fun j => ⟨lowAt lo bs j, bs.getD j ⟨#[]⟩, false⟩
def splitL (r : Rg) (bs : List ByteArray) : List Rg := preS r.lo bs bs.length ++ [⟨lowAt r.lo bs bs.length, r.hi, r.op⟩]
theorem preS_succ (lo : ByteArray) (bs : List ByteArray) (k : Nat) (h : k < bs.length) : preS lo bs (k + 1) = preS lo bs k ++ [⟨lowAt lo bs k, bs[k], false⟩] := by
  unfold preS
  rw [List.range_succ, List.map_append, List.map_singleton, List.getD_eq_getElem?_getD, List.getElem?_eq_getElem h]
  rfl
theorem lowAt_succ (lo : ByteArray) (bs : List ByteArray) (k : Nat) (h : k < bs.length) : lowAt lo bs (k + 1) = bs[k] := by
  show bs.getD k ⟨#[]⟩ = _
  rw [List.getD_eq_getElem?_getD, List.getElem?_eq_getElem h]
  rfl
theorem preS_len (lo : ByteArray) (bs : List ByteArray) (k : Nat) : (preS lo bs k).length = k := by unfold preS; simp
/-- Borders that may be: each in its turn within what is left of the range. -/
structure BordOk (r : Rg) (bs : List ByteArray) : Prop where
  c : rngCheck r.lo r.hi r.op = 0
  z : ∀ b ∈ bs, (b.size : Int) ≤ 16
  l : ∀ j, (h : j < bs.length) → Op.bytesLess (lowAt r.lo bs j).toList bs[j].toList = true
  u : ∀ b ∈ bs, r.op = true ∨ Op.bytesLess b.toList r.hi.toList = true
  n : bs.length ≤ 256
/-- What Split has laid, and where it stands. -/
structure SpAt (w W : World) (lo hi : ByteArray) (op : Bool) (v : Value) (l : List Rg) : Prop where
  x : Ext w W
  b : W.heap[w.heap.size]? = some (.cells #[.string lo, .string hi, .bool op] 26 (0, 0))
  o : OwG 26 3 cR W (w.heap.size + 1) v l
namespace SpAt
variable {w W W' : World} {lo hi : ByteArray} {op : Bool} {v v' : Value} {l l' : List Rg}
theorem c0 (h : SpAt w W lo hi op v l) : W.cell? ⟨w.heap.size, 0, none⟩ = some (.string lo) := by simp [World.cell?, h.b]
theorem c1 (h : SpAt w W lo hi op v l) : W.cell? ⟨w.heap.size, 1, none⟩ = some (.string hi) := by simp [World.cell?, h.b]
theorem c2 (h : SpAt w W lo hi op v l) : W.cell? ⟨w.heap.size, 2, none⟩ = some (.bool op) := by simp [World.cell?, h.b]
theorem f0 (h : SpAt w W lo hi op v l) : W.frozen? ⟨w.heap.size, 0, none⟩ = false := by simp [World.frozen?, h.b]
theorem ext (h : SpAt w W lo hi op v l) (hx : Ext W W') : SpAt w W' lo hi op v l := ⟨Ext.trans _ _ _ h.x hx, (hx.below.block _ (Array.getElem?_eq_some_iff.1 h.b).1).trans h.b, h.o.ext hx⟩
theorem app (h : SpAt w W lo hi op v l) (hg : W.grownBy W' v.ownBlock) (ho : OwG 26 3 cR W' (w.heap.size + 1) v' l') : SpAt w W' lo hi op v' l' := by
  have hx : Ext w W' := ext_grown h.x hg h.o (by omega)
  refine ⟨hx, (hg.block _ (Array.getElem?_eq_some_iff.1 h.b).1 (fun e => ?_)).trans h.b, ho⟩
  have := (World.ownsRow.lt h.o _ e.symm).1
  omega
theorem low (h : SpAt w W lo hi op v l) {lo' : ByteArray} : SpAt w (W.setCell ⟨w.heap.size, 0, none⟩ (.string lo')) lo' hi op v l := by
  have hx : Xl [w.heap.size] W (W.setCell ⟨w.heap.size, 0, none⟩ (.string lo')) := (Xl.refl W).set (by simp)
  exact ⟨Xl.ext h.x hx (by simp), by rw [heap_setCell_same _ _ _ _ _ _ h.b]; rfl, h.o.xl hx (fun g e hm => by have := (World.ownsRow.lt h.o g e).1; simp at hm; omega)⟩
end SpAt
theorem gsl_rg {W : World} {B : Nat} {r : Rg} (h0 : W.cell? ⟨B, 0, none⟩ = some (.string r.lo)) (h1 : W.cell? ⟨B, 1, none⟩ = some (.string r.hi)) (h2 : W.cell? ⟨B, 2, none⟩ = some (.bool r.op)) : GSl cR 3 W (.slice (some ⟨B, 0, none⟩) 1 1) [r] :=
  ⟨_, 1, rfl, Nat.le_refl _, fun _ => ⟨_, 0, rfl, fun i hi j hj => by
    obtain rfl : i = 0 := by simpa using hi
    match j, hj with
    | 0, _ => simpa [cR] using h0
    | 1, _ => simpa [cR] using h1
    | 2, _ => simpa [cR] using h2⟩⟩
theorem rng_infoR : ∃ i z, Tryd.prog.info? 26 = some i ∧ i.size = 3 ∧ i.bytes ≤ 128 ∧ i.zero = some z := ⟨_, _, rfl, rfl, by decide, rfl⟩
theorem sSplit_any {w : World} (r : Rg) (bs : List ByteArray) (v : Value) (hs : GSl cK 1 w v bs) (hb : BordOk r bs) :
    Calls Tryd.prog 67 #[rgV r, v] w fun e w' => ∃ v, e = .returned (.tuple #[v, .int .i64 0]) ∧ OwG 26 3 cR w' w.heap.size v (splitL r bs) ∧ Ext w w' := by
  have HB := hid_mk hb
  have hn := hb.n
  have HCK := hid_mk hb.c
  obtain ⟨lo, hi, op⟩ := r
  obtain ⟨a, c, rfl, hlc, hcells⟩ := hs
  have HC := hid_mk (fun (wr : World) hp hx => gsl_cK (wr := wr) hcells hp hx)
  clear hcells hb
  dsimp only [rgV] at HCK ⊢
  obtain ⟨i0, z0, hinf, hsz, hby, hz⟩ := rng_infoR
  go_enter Tryd.func67, Tryd.ntmps67
  go_wp2_with fail
  refine gen_callsK (fun W => SpAt w W lo hi op (.slice none 0 0) []) ⟨by (repeat (first | exact Ext.refl _ | apply Ext.drew_left | apply Ext.drew | apply Ext.alloc)), by have h := heap_alloc_new w (.cells #[.string lo, .string hi, .bool op] 26); exact h, ownG_nil _ _⟩ ?_
  intro W0 h0
  refine (sCheck_any lo hi op W0).mono ?_
  rintro e W1 ⟨rfl, hx⟩
  rw [HCK.out]
  have HA1 := hid_mk (h0.ext hx)
  have hl1 := cell_lt HA1.out.c0
  clear h0 hx
  obtain ⟨W2, hrun, ho, hg⟩ := run_makeSlice_owned W1 (P := Tryd.prog) (w.heap.size + 1) 61 26 i0 z0 3 Tryd.underlying61 hinf hz hsz .i64 .i64 (bs.length + 1) (by omega) (by have : i0.bytes * (bs.length + 1) ≤ 128 * 257 := Nat.mul_le_mul hby (by omega); omega) (by unfold maxLen; omega) (by omega)
  have HA2 := hid_mk (show SpAt w W2 lo hi op (.slice (some ⟨W1.heap.size, 0, none⟩) 0 (bs.length + 1)) [] from (HA1.out.app (v := .slice none 0 0) hg ho))
  clear ho hg
  rw [show ((bs.length + 1 : Nat) : Int) = (bs.length : Int) + 1 by omega] at hrun
  go_wp2_with fail
  clear hrun hinf hsz hby hz HA1 hl1
  go_loopw [7, 21] (fun v i wr => ∃ k : Nat, k ≤ bs.length ∧ i = .int .i64 (k : Int) ∧ SpAt w wr (lowAt lo bs k) hi op v (preS lo bs k)) (fun _ i _ => bs.length - (intOf i).toNat)
  case atStart => exact ⟨0, Nat.zero_le _, rfl, HA2.out⟩
  case round =>
    clear HA2
    obtain ⟨k, hk, rfl, ha⟩ := hrel
    have HA := hid_mk ha
    clear ha
    obtain ⟨L, hL⟩ : ∃ L, lowAt lo bs k = L := ⟨_, rfl⟩
    rw [hL] at HA
    have c0 := HA.out.c0
    have c1 := HA.out.c1
    have c2 := HA.out.c2
    have f0 := HA.out.f0
    have cl := cell_lt c0
    by_cases hlt : k < bs.length
    · obtain ⟨b, o, rfl, hcl⟩ := HC.out wr (by omega) HA.out.x
      have a0 := hcl k hlt
      have hbl := cell_lt a0
      have hz := HB.out.z bs[k] (List.getElem_mem hlt)
      have hlo := HB.out.l k hlt
      have hup := HB.out.u bs[k] (List.getElem_mem hlt)
      have HPS := hid_mk (show preS lo bs (k + 1) = preS lo bs k ++ [⟨L, bs[k], false⟩] by rw [preS_succ lo bs k hlt, hL])
      have HLA := hid_mk (lowAt_succ lo bs k hlt)
      obtain ⟨y, hy⟩ : ∃ y, bs[k] = y := ⟨_, rfl⟩
      rw [hy] at a0 hz hlo hup HPS HLA
      rw [show lowAt (Rg.mk lo hi op).lo bs k = L from hL] at hlo
      have hz' : ¬ (16 : Int) < (y.size : Int) := by omega
      have hlo2 := bl_asymm hlo
      have hlo3 : (y.toList == L.toList) = false := by rw [beq_eq_false_iff_ne]; exact fun e => bl_ne hlo e.symm
      have HUP := hid_mk (show (op || Op.bytesLess y.toList hi.toList) = true by dsimp only at hup; rcases hup with h | h <;> simp [h])
      have hk1 : (k : Int) < (bs.length : Int) := by omega
      have hk0 : (0 : Int) ≤ (k : Int) := by omega
      have HW := hid_mk (show wrap64 ((k : Int) + 1) = (k : Int) + 1 from w64in (by omega))
      clear hcl hy hup hz hL
      go_wp2_with fail
      refine (below_any y L hi op wr).mono ?_
      rintro e W5 ⟨rfl, hx⟩
      rw [HUP.out]
      replace HA := hid_mk (HA.out.ext hx)
      clear c0 c1 c2 f0 cl a0 hbl hx
      have c0 := HA.out.c0
      have f0 := HA.out.f0
      have cl := cell_lt c0
      have hx1 : Ext W5 (W5.alloc (.cells #[.string L, .string y, .bool false] 26)) := by (repeat (first | exact Ext.refl _ | apply Ext.drew_left | apply Ext.drew | apply Ext.alloc))
      obtain ⟨v', w', hrun, ho, hg, hob⟩ := appendG okR (w := W5.alloc (.cells #[.string L, .string y, .bool false] 26)) (lv := .slice (some ⟨W5.heap.size, 0, none⟩) 1 1) (L := [⟨L, y, false⟩]) (HA.out.ext hx1).o (gsl_rg (by go_simp) (by go_simp) (by go_simp)) (by rw [preS_len]; simp; omega) (by simp; omega)
      have HB2 := hid_mk (show SpAt w w' L hi op v' (preS lo bs (k + 1)) by rw [HPS.out]; exact (HA.out.ext hx1).app hg ho)
      have d0 := HB2.out.c0
      have g0 := HB2.out.f0
      have dl := cell_lt d0
      clear ho hg hob hx1
      go_wp2
      go_roundw
      case rel => exact ⟨k + 1, hlt, (by first | exact congrArg (Value.int .i64) HW.out | rfl), by rw [HLA.out]; exact HB2.out.low⟩
      case measure => (try simp only [HW.out]); simp [intOf]; omega
    · obtain rfl : k = bs.length := by omega
      have hmm : ¬ ((bs.length : Nat) : Int) < (bs.length : Int) := by omega
      have hx1 : Ext wr (wr.alloc (.cells #[.string L, .string hi, .bool op] 26)) := by (repeat (first | exact Ext.refl _ | apply Ext.drew_left | apply Ext.drew | apply Ext.alloc))
      obtain ⟨v', w', hrun, ho, hg, hob⟩ := appendG okR (w := wr.alloc (.cells #[.string L, .string hi, .bool op] 26)) (lv := .slice (some ⟨wr.heap.size, 0, none⟩) 1 1) (L := [⟨L, hi, op⟩]) (HA.out.ext hx1).o (gsl_rg (by go_simp) (by go_simp) (by go_simp)) (by rw [preS_len]; simp; omega) (by simp; omega)
      have HB2 := hid_mk (show SpAt w w' L hi op v' (splitL ⟨lo, hi, op⟩ bs) by rw [splitL, show lowAt (Rg.mk lo hi op).lo bs bs.length = L from hL]; exact (HA.out.ext hx1).app hg ho)
      clear ho hg hob hx1 hL
      go_wp2
      refine bodyPost_ret (v := .tuple #[v', .int .i64 0]) (by unfold results; rw [Tryd.results67]; go_simp; first | done | rfl) rfl ⟨_, rfl, HB2.out.o.lower (by omega), HB2.out.x⟩
end Go.Proofs.YtiimoaplhhnklaaDoor
