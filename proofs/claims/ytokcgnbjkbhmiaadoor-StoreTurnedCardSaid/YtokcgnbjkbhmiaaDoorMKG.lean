/- Judging: the document's entries of a list that lie in a range; their keys. Cuts: keys that rise; both checks of them. Cuts: where the parts begin. -/
import Derived.Test.YtokcgnbjkbhmiaaDoorMKE
import Derived.Laws.OwnMore
namespace Go.Proofs.YtokcgnbjkbhmiaaDoor
open Go.RowKit Go.Lib
set_option maxHeartbeats 4000000
set_option maxRecDepth 100000
set_option linter.unusedSimpArgs false
set_option linter.unusedVariables false
attribute [-go_sem] Builtin.append_
theorem r9In_any {w : World} (lo hi : ByteArray) (op : Bool) (l : List Ent) (v : Value) (hs : EntSl w v l) (hl : l.length ≤ 300000000) :
    Calls Tryd.prog 44 #[v, rngV lo hi op] w fun e w' => ∃ v, e = .returned (.tuple #[v, .int .i64 (inE lo hi op l)]) ∧ OwEn w' w.heap.size v (inR lo hi op l) ∧ Ext w w' := by
  have HS := hid_mk hs
  obtain ⟨a, c, rfl, hlc, hc63, hcells⟩ := hs
  have HC := hid_mk hcells
  clear hcells
  obtain ⟨z, hz⟩ : ∃ z, mChk l = z := ⟨_, rfl⟩
  have HZ := hid_mk hz
  obtain ⟨u, hu⟩ : ∃ u, rngCheck lo hi op = u := ⟨_, rfl⟩
  have HU := hid_mk hu
  obtain ⟨E, hE⟩ : ∃ E, inE lo hi op l = E := ⟨_, rfl⟩
  obtain ⟨R, hR⟩ : ∃ R, inR lo hi op l = R := ⟨_, rfl⟩
  have HE := hid_mk (show (if z ≠ 0 then z else u) = E by rw [← hE, inE, hz, hu])
  have HR := hid_mk (show (if E = 0 then inF lo hi op l else []) = R by rw [← hR, inR, hE])
  rw [hE, hR]
  clear hz hu hE hR
  go_enter Tryd.func44, Tryd.ntmps44
  go_wp2_with fail
  refine gen_callsK (fun W => InAt w W lo hi op (.slice none 0 0) []) ⟨by (repeat (first | exact Ext.refl _ | apply Ext.drew_left | apply Ext.drew | apply Ext.alloc)), by go_simp, by go_simp, by go_simp, ownE_nil _ _⟩ ?_
  intro W0 h0
  have HA0 := hid_mk h0
  clear h0
  refine (r9Check_any l _ W0 (HS.out.ext HA0.out.x)).mono ?_
  rintro e W1 ⟨rfl, hx⟩
  rw [HZ.out]
  have HA1 := hid_mk (HA0.out.ext hx)
  clear hx HA0
  by_cases hz0 : z = 0
  rotate_left
  · have hb : (z == 0) = false := by rw [beq_eq_false_iff_ne]; exact hz0
    rw [if_pos hz0] at HE
    obtain rfl : z = E := HE.out
    have HR' := hid_mk (show R = [] by rw [← HR.out, if_neg hz0])
    go_wp2
    refine bodyPost_ret (v := .tuple #[.slice none 0 0, .int .i64 z]) (by unfold results; rw [Tryd.results44]; go_simp; first | done | rfl) rfl ⟨_, rfl, by rw [HR'.out]; exact ownE_nil _ _, HA1.out.x⟩
  subst hz0
  rw [if_neg (by simp)] at HE
  have c0 := HA1.out.c0
  have c1 := HA1.out.c1
  have c2 := HA1.out.c2
  have rl := cell_lt c0
  go_wp2_with fail
  refine (r2Check_any lo hi op W1).mono ?_
  rintro e W2 ⟨rfl, hx⟩
  rw [HU.out]
  have HA2 := hid_mk (HA1.out.ext hx)
  clear hx HA1 c0 c1 c2 rl
  by_cases hu0 : u = 0
  rotate_left
  · have hb : (u == 0) = false := by rw [beq_eq_false_iff_ne]; exact hu0
    obtain rfl : u = E := HE.out
    have HR' := hid_mk (show R = [] by rw [← HR.out, if_neg hu0])
    go_wp2
    refine bodyPost_ret (v := .tuple #[.slice none 0 0, .int .i64 u]) (by unfold results; rw [Tryd.results44]; go_simp; first | done | rfl) rfl ⟨_, rfl, by rw [HR'.out]; exact ownE_nil _ _, HA2.out.x⟩
  subst hu0
  obtain rfl : 0 = E := HE.out
  rw [if_pos rfl] at HR
  have hl2 := cell_lt HA2.out.c0
  go_wp2_with fail
  go_loopw [7, 8] (fun v i wr => ∃ k : Nat, k ≤ l.length ∧ i = .int .i64 (k : Int) ∧ InAt w wr lo hi op v (inF lo hi op (l.take k))) (fun _ i _ => l.length - (intOf i).toNat)
  case atStart =>
    have h := HA2.out.ext (show Ext W2 (W2.alloc (.cells #[] 57)) by (repeat (first | exact Ext.refl _ | apply Ext.drew_left | apply Ext.drew | apply Ext.alloc)))
    exact ⟨0, Nat.zero_le _, rfl, h.x, h.c0, h.c1, h.c2, ownE_empty (heap_alloc_new W2 (.cells #[] 57)) (by omega)⟩
  case round =>
    clear HA2
    obtain ⟨k, hk, rfl, ha⟩ := hrel
    have HA := hid_mk ha
    clear ha
    by_cases hlt : k < l.length
    · skip
      obtain ⟨b, o, rfl, hcl⟩ := HC.out (by omega)
      obtain ⟨a0, a1, a2, a3, a4⟩ := (hcl k hlt).ext HA.out.x
      have hbl := cell_lt a0
      have HT := hid_mk (show inF lo hi op (l.take (k + 1)) = if holdE lo hi op l[k] = true then inF lo hi op (l.take k) ++ [l[k]] else inF lo hi op (l.take k) by rw [List.take_succ_eq_append_getElem hlt, inF_snoc])
      obtain ⟨y, hy⟩ : ∃ y, l[k] = y := ⟨_, rfl⟩
      rw [hy] at a0 a1 a2 a3 a4 HT
      obtain ⟨h, hh⟩ : ∃ h, holdE lo hi op y = h := ⟨_, rfl⟩
      have HH := hid_mk hh
      have hk1 : (k : Int) < (l.length : Int) := by omega
      have hk0 : (0 : Int) ≤ (k : Int) := by omega
      have HW := hid_mk (show wrap64 ((k : Int) + 1) = (k : Int) + 1 from w64in (by omega))
      have HLM := hid_mk (inF_len lo hi op (l.take k))
      rw [List.length_take] at HLM
      clear hcl hy hh
      have c0 := HA.out.c0
      have c1 := HA.out.c1
      have c2 := HA.out.c2
      have rl := cell_lt c0
      go_wp2_with fail
      have hx5 := Ext.refl wr
      have hc5 := hx5.hc; have hl5 := hx5.hl; have he5 := hx5.hle; have hn5 := hx5.hne; replace hx5 := hid_mk hx5
      refine wp_region_held_below (fun _ => true) (.quiet 0 (.quiet 1 (.quiet 2 (.quiet 3 (.quiet 4 (.quiet 5 (.alt 6 .done .stop))))))) (by kernel_rfl) (by kernel_rfl) (by intro c a w d v h; cases d <;> exact h) (fun ops HO => ?_)
      refine plan_read _ (hi_of HO rfl) rfl (fun w' hE => by have hcE := (Ext.trans _ _ _ (by (repeat (first | exact hx5.out | apply Ext.drew | apply Ext.alloc))) hE).hc; (repeat (with_reducible replace hE := Ext.unD hE)); have hcF := hE.hc; clear hE; go_simp; rfl) ?_
      simp only [Act.put, List.setIfInBounds_toArray, List.set_cons_succ, List.set_cons_zero]
      refine plan_read _ (hi_of HO rfl) rfl (fun w' hE => by have hcE := (Ext.trans _ _ _ (by (repeat (first | exact hx5.out | apply Ext.drew | apply Ext.alloc))) hE).hc; (repeat (with_reducible replace hE := Ext.unD hE)); have hcF := hE.hc; clear hE; go_simp; rfl) ?_
      simp only [Act.put, List.setIfInBounds_toArray, List.set_cons_succ, List.set_cons_zero]
      refine plan_read _ (hi_of HO rfl) rfl (fun w' hE => by have hcE := (Ext.trans _ _ _ (by (repeat (first | exact hx5.out | apply Ext.drew | apply Ext.alloc))) hE).hc; (repeat (with_reducible replace hE := Ext.unD hE)); have hcF := hE.hc; clear hE; go_simp; rfl) ?_
      simp only [Act.put, List.setIfInBounds_toArray, List.set_cons_succ, List.set_cons_zero]
      refine plan_read _ (hi_of HO rfl) rfl (fun w' hE => by have hcE := (Ext.trans _ _ _ (by (repeat (first | exact hx5.out | apply Ext.drew | apply Ext.alloc))) hE).hc; (repeat (with_reducible replace hE := Ext.unD hE)); have hcF := hE.hc; clear hE; go_simp; rfl) ?_
      simp only [Act.put, List.setIfInBounds_toArray, List.set_cons_succ, List.set_cons_zero]
      refine plan_read _ (hi_of HO rfl) rfl (fun w' hE => by have hcE := (Ext.trans _ _ _ (by (repeat (first | exact hx5.out | apply Ext.drew | apply Ext.alloc))) hE).hc; (repeat (with_reducible replace hE := Ext.unD hE)); have hcF := hE.hc; clear hE; go_simp; rfl) ?_
      simp only [Act.put, List.setIfInBounds_toArray, List.set_cons_succ, List.set_cons_zero]
      refine plan_read _ (hi_of HO rfl) rfl (fun w' hE => by have hcE := (Ext.trans _ _ _ (by (repeat (first | exact hx5.out | apply Ext.drew | apply Ext.alloc))) hE).hc; (repeat (with_reducible replace hE := Ext.unD hE)); have hcF := hE.hc; clear hE; go_simp; rfl) ?_
      simp only [Act.put, List.setIfInBounds_toArray, List.set_cons_succ, List.set_cons_zero]
      refine plan_call1 en_r2Holds (hi_of HO rfl) rfl rfl (by go_simp; rfl) (by exact (r2Holds_any lo hi op y.key _)) ?_
      rintro e v101 ⟨rfl, hx101⟩
      refine ⟨_, rfl, fun _ => hx101, ?_⟩
      have hy101 := hid_mk (by first | (with_reducible exact Ext.unD hx101) | exact hx101 : Ext _ v101)
      replace hx101 := Ext.trans _ _ _ (by (repeat (first | exact hx5.out | apply Ext.drew | apply Ext.alloc))) hx101
      clear hc5 hl5 he5 hn5
      have hc101 := hx101.hc; have hl101 := hx101.hl; have he101 := hx101.hle; have hn101 := hx101.hne; replace hx101 := hid_mk hx101
      simp only [Act.put, List.setIfInBounds_toArray, List.set_cons_succ, List.set_cons_zero]
      replace HA := hid_mk (HA.out.ext hy101.out)
      replace a0 := cell_ext hy101.out a0
      replace a1 := cell_ext hy101.out a1
      replace a2 := cell_ext hy101.out a2
      replace a3 := cell_ext hy101.out a3
      replace a4 := cell_ext hy101.out a4
      replace hbl := cell_lt a0
      refine plan_done ?fin102
      rw [show rngHolds lo hi op y.key = h from HH.out]
      cases h with
      | true =>
        obtain ⟨v', w', hrun, ho, hg, hob⟩ := appendE (w := v101.alloc (.cells #[.string y.key, .int .i64 y.ctr, .int .i64 y.node, .string y.val, .bool y.dead] 57)) (lv := .slice (some ⟨v101.heap.size, 0, none⟩) 1 1) (L := [y]) (HA.out.ext (by (repeat (first | exact Ext.refl _ | apply Ext.drew_left | apply Ext.drew | apply Ext.alloc)))).o (entSl_one ⟨by go_simp, by go_simp, by go_simp, by go_simp, by go_simp⟩) (by have := HLM.out; simp; omega) (by have := cell_lt HA.out.c0; simp; omega)
        have HB := hid_mk (show InAt w w' lo hi op v' (inF lo hi op (l.take (k + 1))) by rw [HT.out, if_pos HH.out]; exact (HA.out.ext (by (repeat (first | exact Ext.refl _ | apply Ext.drew_left | apply Ext.drew | apply Ext.alloc)))).app hg ho)
        clear ho hg hob
        go_wp2
        go_roundw
        case rel => exact ⟨k + 1, hlt, (by first | exact congrArg (Value.int .i64) HW.out | rfl), HB.out⟩
        case measure => (try simp only [HW.out]); simp [intOf]; omega
      | false =>
        go_wp2
        go_roundw
        case rel => exact ⟨k + 1, hlt, (by first | exact congrArg (Value.int .i64) HW.out | rfl), by rw [HT.out, if_neg (by rw [HH.out]; simp)]; exact HA.out⟩
        case measure => (try simp only [HW.out]); simp [intOf]; omega
    · obtain rfl : k = l.length := by omega
      have hmm : ¬ ((l.length : Nat) : Int) < (l.length : Int) := by omega
      rw [List.take_length] at HA
      go_wp2
      refine bodyPost_ret (v := .tuple #[u7, .int .i64 0]) (by unfold results; rw [Tryd.results44]; go_simp; first | done | rfl) rfl ⟨_, rfl, by rw [← HR.out]; exact HA.out.o.lower (by omega), HA.out.x⟩
def keysL (l : List Ent) : List ByteArray := l.map Ent.key
end Go.Proofs.YtokcgnbjkbhmiaaDoor
namespace Go.Proofs.YtokcgnbjkbhmiaaDoor
open Go.RowKit Go.Lib
set_option maxHeartbeats 4000000
set_option maxRecDepth 100000
set_option linter.unusedSimpArgs false
set_option linter.unusedVariables false
attribute [-go_sem] Builtin.append_

def cI (z : Int) : List Value := [.int .i64 z]
def cK (k : ByteArray) : List Value := [.string k]
theorem okI : TyOk Tryd.prog 53 3 1 cI where
  ht := Tryd.underlying53
  hk := by omega
  hf := fun _ => rfl
  h1 := fun a u hu => by simp [cI] at hu; subst hu; rfl
  info := ⟨_, _, rfl, rfl, by decide, rfl, rfl⟩
  zero := fun w base n cap h x c => by cases base <;> cases x <;> (unfold Builtin.append_; go_simp)
theorem okK : TyOk Tryd.prog 140 9 1 cK where
  ht := Tryd.underlying140
  hk := by omega
  hf := fun _ => rfl
  h1 := fun a u hu => by simp [cK] at hu; subst hu; rfl
  info := ⟨_, _, rfl, rfl, by decide, rfl, rfl⟩
  zero := fun w base n cap h x c => by cases base <;> cases x <;> (unfold Builtin.append_; go_simp)
theorem flat_cK (l : List ByteArray) : l.flatMap cK = l.map Value.string := by
  induction l with
  | nil => rfl
  | cons a l ih => rw [List.flatMap_cons, ih]; rfl
theorem OwS.g {w : World} {B : Nat} {v : Value} {l : List ByteArray} (h : OwS w B v l) : OwG 9 1 cK w B v l := by unfold OwG; rw [flat_cK]; exact h
theorem OwS.gsl {w : World} {B : Nat} {v : Value} {l : List ByteArray} (h : OwS w B v l) : GSl cK 1 w v l := h.g.sl Nat.one_pos (fun _ => rfl)
/-- Keys that may be, and rise. -/
structure KeysOk (ks : List ByteArray) : Prop where
  z : ∀ k ∈ ks, (k.size : Int) ≤ 16
  r : ∀ i, (h : i + 1 < ks.length) → Op.bytesLess ks[i].toList ks[i + 1].toList = true
  n : ks.length ≤ 256
theorem gsl_cK {w wr : World} {a : Option Addr} {ks : List ByteArray} (h : 0 < ks.length → ∃ b o, a = some ⟨b, o, none⟩ ∧ ∀ i, (h : i < ks.length) → ∀ j, j < 1 → w.cell? ⟨b, o + i * 1 + j, none⟩ = (cK ks[i])[j]?) (hp : 0 < ks.length) (hx : Ext w wr) :
    ∃ b o, a = some ⟨b, o, none⟩ ∧ ∀ i, (h : i < ks.length) → wr.cell? ⟨b, o + i, none⟩ = some (.string ks[i]) := by
  obtain ⟨b, o, e, hc⟩ := h hp
  refine ⟨b, o, e, fun i hi => ?_⟩
  have h1 := hc i hi 0 (by omega)
  rw [Nat.mul_one, Nat.add_zero] at h1
  exact cell_ext hx h1
theorem cCheck_any {w : World} (ks : List ByteArray) (v : Value) (hs : GSl cK 1 w v ks) (hk : KeysOk ks) :
    Calls Tryd.prog 114 #[v] w fun e w' => e = .returned (.int .i64 0) ∧ Ext w w' := by
  obtain ⟨a, c, rfl, hlc, hcells⟩ := hs
  have HC := hid_mk (fun (wr : World) hp hx => gsl_cK (wr := wr) hcells hp hx)
  have HK := hid_mk hk
  have hn := hk.n
  clear hcells hk
  go_enter Tryd.func114, Tryd.ntmps114
  go_wp2
  go_loopw [8] (fun i wr => ∃ k : Nat, k ≤ ks.length ∧ i = .int .i64 (k : Int) ∧ Ext w wr) (fun i _ => ks.length - (intOf i).toNat)
  case atStart => exact ⟨0, Nat.zero_le _, rfl, Ext.refl _⟩
  case round =>
    obtain ⟨k, hkl, rfl, hx⟩ := hrel
    have HX := hid_mk hx
    clear hx
    by_cases hlt : k < ks.length
    · obtain ⟨b, o, rfl, hcl⟩ := HC.out wr (by omega) HX.out
      have a0 := hcl k hlt
      have hbl := cell_lt a0
      have hz := HK.out.z ks[k] (List.getElem_mem hlt)
      obtain ⟨y, hy⟩ : ∃ y, ks[k] = y := ⟨_, rfl⟩
      rw [hy] at a0 hz
      have hz' : ¬ (16 : Int) < (y.size : Int) := by omega
      have hk1 : (k : Int) < (ks.length : Int) := by omega
      have hk0 : (0 : Int) ≤ (k : Int) := by omega
      have HW := hid_mk (show wrap64 ((k : Int) + 1) = (k : Int) + 1 from w64in (by omega))
      clear hcl hy
      go_wp2
      go_roundw
      case rel => exact ⟨k + 1, hlt, (by first | exact congrArg (Value.int .i64) HW.out | rfl), HX.out⟩
      case measure => (try simp only [HW.out]); simp [intOf]; omega
    · obtain rfl : k = ks.length := by omega
      have hmm : ¬ ((ks.length : Nat) : Int) < (ks.length : Int) := by omega
      go_wp2_with fail
      go_loopw [18] (fun i wr2 => ∃ k : Nat, k ≤ ks.length ∧ i = .int .i64 (k : Int) ∧ Ext wr wr2) (fun i _ => ks.length - (intOf i).toNat)
      case atStart => exact ⟨0, Nat.zero_le _, rfl, Ext.refl _⟩
      case round =>
        obtain ⟨k, hkl, rfl, hx⟩ := hrel
        have HX2 := hid_mk hx
        clear hx
        by_cases hlt2 : k < ks.length
        · obtain ⟨b, o, rfl, hcl⟩ := HC.out wr (by omega) (Ext.trans _ _ _ HX.out HX2.out)
          have hk1 : (k : Int) < (ks.length : Int) := by omega
          have HW := hid_mk (show wrap64 ((k : Int) + 1) = (k : Int) + 1 from w64in (by omega))
          rcases k with _ | m
          · go_wp2
            go_region
            go_wp2
            go_roundw
            case rel => exact ⟨1, by omega, rfl, (HX2.out).drew⟩
            case measure => simp [intOf]; omega
          · have a0 := hcl (m + 1) hlt2
            have b0 := hcl m (by omega)
            have hbl := cell_lt a0
            have hr := HK.out.r m hlt2
            obtain ⟨y, hy⟩ : ∃ y, ks[m + 1] = y := ⟨_, rfl⟩
            obtain ⟨x, hxx⟩ : ∃ x, ks[m] = x := ⟨_, rfl⟩
            rw [hy] at a0 hr
            rw [hxx] at b0 hr
            clear hcl hy hxx
            have hm0 : (0 : Int) < (m : Int) + 1 := by omega
            have hm1 : (m : Int) < (ks.length : Int) := by omega
            have hlt4 : IntKind.i64.wrap (m : Int) = m := wrapN m (by omega)
            go_wp2_with fail
            have hx5 := Ext.refl wr
            have hc5 := hx5.hc; have hl5 := hx5.hl; have he5 := hx5.hle; have hn5 := hx5.hne; replace hx5 := hid_mk hx5
            refine wp_region_held_below (fun _ => true) (.quiet 0 (.quiet 1 (.quiet 2 (.quiet 3 (.quiet 4 (.quiet 5 (.quiet 6 (.quiet 7 (.quiet 8 (.quiet 9 (.quiet 10 (.quiet 11 (.quiet 12 (.quiet 13 .done)))))))))))))) (by kernel_rfl) (by kernel_rfl) (by intro c a w d v h; cases d <;> exact h) (fun ops HO => ?_)
            refine plan_read _ (hi_of HO rfl) rfl (fun w' hE => by have hcE := (Ext.trans _ _ _ (by (repeat (first | exact hx5.out | apply Ext.drew | apply Ext.alloc))) hE).hc; (repeat (with_reducible replace hE := Ext.unD hE)); have hcF := hE.hc; clear hE; go_simp; rfl) ?_
            simp only [Act.put, List.setIfInBounds_toArray, List.set_cons_succ, List.set_cons_zero]
            refine plan_read _ (hi_of HO rfl) rfl (fun w' hE => by have hcE := (Ext.trans _ _ _ (by (repeat (first | exact hx5.out | apply Ext.drew | apply Ext.alloc))) hE).hc; (repeat (with_reducible replace hE := Ext.unD hE)); have hcF := hE.hc; clear hE; go_simp; rfl) ?_
            simp only [Act.put, List.setIfInBounds_toArray, List.set_cons_succ, List.set_cons_zero]
            refine plan_read _ (hi_of HO rfl) rfl (fun w' hE => by have hcE := (Ext.trans _ _ _ (by (repeat (first | exact hx5.out | apply Ext.drew | apply Ext.alloc))) hE).hc; (repeat (with_reducible replace hE := Ext.unD hE)); have hcF := hE.hc; clear hE; go_simp; rfl) ?_
            simp only [Act.put, List.setIfInBounds_toArray, List.set_cons_succ, List.set_cons_zero]
            refine plan_read _ (hi_of HO rfl) (by rw [HO.out]; rfl) (fun w' hE => by have hcE := (Ext.trans _ _ _ (by (repeat (first | exact hx5.out | apply Ext.drew | apply Ext.alloc))) hE).hc; (repeat (with_reducible replace hE := Ext.unD hE)); have hcF := hE.hc; clear hE; go_simp; rfl) ?_
            simp only [Act.put, List.setIfInBounds_toArray, List.set_cons_succ, List.set_cons_zero]
            refine plan_read _ (hi_of HO rfl) (by rw [HO.out]; rfl) (fun w' hE => by have hcE := (Ext.trans _ _ _ (by (repeat (first | exact hx5.out | apply Ext.drew | apply Ext.alloc))) hE).hc; (repeat (with_reducible replace hE := Ext.unD hE)); have hcF := hE.hc; clear hE; go_simp; rfl) ?_
            simp only [Act.put, List.setIfInBounds_toArray, List.set_cons_succ, List.set_cons_zero]
            refine plan_read _ (hi_of HO rfl) (by rw [HO.out]; rfl) (fun w' hE => by have hcE := (Ext.trans _ _ _ (by (repeat (first | exact hx5.out | apply Ext.drew | apply Ext.alloc))) hE).hc; (repeat (with_reducible replace hE := Ext.unD hE)); have hcF := hE.hc; clear hE; go_simp; rfl) ?_
            simp only [Act.put, List.setIfInBounds_toArray, List.set_cons_succ, List.set_cons_zero]
            refine plan_read _ (hi_of HO rfl) (by rw [HO.out]; rfl) (fun w' hE => by have hcE := (Ext.trans _ _ _ (by (repeat (first | exact hx5.out | apply Ext.drew | apply Ext.alloc))) hE).hc; (repeat (with_reducible replace hE := Ext.unD hE)); have hcF := hE.hc; clear hE; go_simp; rfl) ?_
            simp only [Act.put, List.setIfInBounds_toArray, List.set_cons_succ, List.set_cons_zero]
            refine plan_read _ (hi_of HO rfl) (by rw [HO.out]; rfl) (fun w' hE => by have hcE := (Ext.trans _ _ _ (by (repeat (first | exact hx5.out | apply Ext.drew | apply Ext.alloc))) hE).hc; (repeat (with_reducible replace hE := Ext.unD hE)); have hcF := hE.hc; clear hE; go_simp; rfl) ?_
            simp only [Act.put, List.setIfInBounds_toArray, List.set_cons_succ, List.set_cons_zero]
            refine plan_read _ (hi_of HO rfl) (by rw [HO.out]; rfl) (fun w' hE => by have hcE := (Ext.trans _ _ _ (by (repeat (first | exact hx5.out | apply Ext.drew | apply Ext.alloc))) hE).hc; (repeat (with_reducible replace hE := Ext.unD hE)); have hcF := hE.hc; clear hE; go_simp; rfl) ?_
            simp only [Act.put, List.setIfInBounds_toArray, List.set_cons_succ, List.set_cons_zero]
            refine plan_read _ (hi_of HO rfl) (by rw [HO.out]; rfl) (fun w' hE => by have hcE := (Ext.trans _ _ _ (by (repeat (first | exact hx5.out | apply Ext.drew | apply Ext.alloc))) hE).hc; (repeat (with_reducible replace hE := Ext.unD hE)); have hcF := hE.hc; clear hE; go_simp; rfl) ?_
            simp only [Act.put, List.setIfInBounds_toArray, List.set_cons_succ, List.set_cons_zero]
            refine plan_read _ (hi_of HO rfl) (by rw [HO.out]; rfl) (fun w' hE => by have hcE := (Ext.trans _ _ _ (by (repeat (first | exact hx5.out | apply Ext.drew | apply Ext.alloc))) hE).hc; (repeat (with_reducible replace hE := Ext.unD hE)); have hcF := hE.hc; clear hE; go_simp; rfl) ?_
            simp only [Act.put, List.setIfInBounds_toArray, List.set_cons_succ, List.set_cons_zero]
            refine plan_read _ (hi_of HO rfl) (by rw [HO.out]; rfl) (fun w' hE => by have hcE := (Ext.trans _ _ _ (by (repeat (first | exact hx5.out | apply Ext.drew | apply Ext.alloc))) hE).hc; (repeat (with_reducible replace hE := Ext.unD hE)); have hcF := hE.hc; clear hE; go_simp; rfl) ?_
            simp only [Act.put, List.setIfInBounds_toArray, List.set_cons_succ, List.set_cons_zero]
            refine plan_read _ (hi_of HO rfl) (by rw [HO.out]; rfl) (fun w' hE => by have hcE := (Ext.trans _ _ _ (by (repeat (first | exact hx5.out | apply Ext.drew | apply Ext.alloc))) hE).hc; (repeat (with_reducible replace hE := Ext.unD hE)); have hcF := hE.hc; clear hE; go_simp; rfl) ?_
            simp only [Act.put, List.setIfInBounds_toArray, List.set_cons_succ, List.set_cons_zero]
            refine plan_read _ (hi_of HO rfl) rfl (fun w' hE => by have hcE := (Ext.trans _ _ _ (by (repeat (first | exact hx5.out | apply Ext.drew | apply Ext.alloc))) hE).hc; (repeat (with_reducible replace hE := Ext.unD hE)); have hcF := hE.hc; clear hE; go_simp; rfl) ?_
            simp only [Act.put, List.setIfInBounds_toArray, List.set_cons_succ, List.set_cons_zero]
            refine plan_done ?fin101
            go_wp2
            go_roundw
            case rel => exact ⟨m + 1 + 1, by omega, (by first | exact congrArg (Value.int .i64) HW.out | rfl), Ext.trans _ _ _ HX2.out (by (repeat (first | exact Ext.refl _ | apply Ext.drew_left | apply Ext.drew | apply Ext.alloc)))⟩
            case measure => (try simp only [HW.out]); simp [intOf]; omega
        · obtain rfl : k = ks.length := by omega
          have hmm : ¬ ((ks.length : Nat) : Int) < (ks.length : Int) := by omega
          go_wp2
          go_ret
          exact ⟨rfl, Ext.trans _ _ _ HX.out HX2.out⟩
end Go.Proofs.YtokcgnbjkbhmiaaDoor
namespace Go.Proofs.YtokcgnbjkbhmiaaDoor
open Go.RowKit Go.Lib
set_option maxHeartbeats 4000000
set_option maxRecDepth 100000
set_option linter.unusedSimpArgs false
set_option linter.unusedVariables false
attribute [-go_sem] Builtin.append_

theorem r7Rise_any {w : World} (ks : List ByteArray) (v : Value) (hs : GSl cK 1 w v ks) (hk : KeysOk ks) :
    Calls Tryd.prog 143 #[v] w fun e w' => e = .returned (.int .i64 0) ∧ Ext w w' := by
  obtain ⟨a, c, rfl, hlc, hcells⟩ := hs
  have HC := hid_mk (fun (wr : World) hp hx => gsl_cK (wr := wr) hcells hp hx)
  have HK := hid_mk hk
  have hn := hk.n
  clear hcells hk
  go_enter Tryd.func143, Tryd.ntmps143
  go_wp2
  go_loopw [3] (fun i wr => ∃ k : Nat, k ≤ ks.length ∧ i = .int .i64 (k : Int) ∧ Ext w wr) (fun i _ => ks.length - (intOf i).toNat)
  case atStart => exact ⟨0, Nat.zero_le _, rfl, Ext.refl _⟩
  case round =>
    obtain ⟨k, hkl, rfl, hx⟩ := hrel
    have HX := hid_mk hx
    clear hx
    by_cases hlt : k < ks.length
    · obtain ⟨b, o, rfl, hcl⟩ := HC.out wr (by omega) HX.out
      have a0 := hcl k hlt
      have hbl := cell_lt a0
      have hz := HK.out.z ks[k] (List.getElem_mem hlt)
      obtain ⟨y, hy⟩ : ∃ y, ks[k] = y := ⟨_, rfl⟩
      rw [hy] at a0 hz
      have hz' : ¬ (16 : Int) < (y.size : Int) := by omega
      have hk1 : (k : Int) < (ks.length : Int) := by omega
      have hk0 : (0 : Int) ≤ (k : Int) := by omega
      have HW := hid_mk (show wrap64 ((k : Int) + 1) = (k : Int) + 1 from w64in (by omega))
      clear hcl hy
      go_wp2
      go_roundw
      case rel => exact ⟨k + 1, hlt, (by first | exact congrArg (Value.int .i64) HW.out | rfl), HX.out⟩
      case measure => (try simp only [HW.out]); simp [intOf]; omega
    · obtain rfl : k = ks.length := by omega
      have hmm : ¬ ((ks.length : Nat) : Int) < (ks.length : Int) := by omega
      go_wp2_with fail
      go_loopw [4] (fun i wr2 => ∃ k : Nat, k ≤ 300 ∧ i = .int .i64 (k : Int) ∧ 1 ≤ k ∧ Ext wr wr2) (fun i _ => 301 - (intOf i).toNat)
      case atStart => exact ⟨1, by omega, rfl, Nat.le_refl _, Ext.refl _⟩
      case round =>
        obtain ⟨k, hk3, rfl, hk1, hx⟩ := hrel
        have HX2 := hid_mk hx
        clear hx
        by_cases hlt2 : k < ks.length
        · obtain ⟨b, o, rfl, hcl⟩ := HC.out wr (by omega) (Ext.trans _ _ _ HX.out HX2.out)
          have HW := hid_mk (show wrap64 ((k : Int) + 1) = (k : Int) + 1 from w64in (by omega))
          obtain ⟨m, rfl⟩ : ∃ m, k = m + 1 := ⟨k - 1, by omega⟩
          have a0 := hcl (m + 1) hlt2
          have b0 := hcl m (by omega)
          have hbl := cell_lt a0
          have hr := HK.out.r m hlt2
          have hr2 := bl_asymm hr
          have hr3 := bl_ne hr
          obtain ⟨y, hy⟩ : ∃ y, ks[m + 1] = y := ⟨_, rfl⟩
          obtain ⟨x, hxx⟩ : ∃ x, ks[m] = x := ⟨_, rfl⟩
          rw [hy] at a0 hr hr2 hr3
          rw [hxx] at b0 hr hr2 hr3
          have hr4 : (y.toList == x.toList) = false := by rw [beq_eq_false_iff_ne]; exact fun e => hr3 e.symm
          clear hcl hy hxx
          have hk1' : ((m + 1 : Nat) : Int) < (ks.length : Int) := by omega
          have hm0 : (0 : Int) < (m : Int) + 1 := by omega
          have hm1 : (m : Int) < (ks.length : Int) := by omega
          have hlt4 : IntKind.i64.wrap (m : Int) = m := wrapN m (by omega)
          go_wp2_with fail
          have hx5 := Ext.refl wr
          have hc5 := hx5.hc; have hl5 := hx5.hl; have he5 := hx5.hle; have hn5 := hx5.hne; replace hx5 := hid_mk hx5
          refine wp_region_held_below (fun _ => true) (.quiet 0 (.quiet 1 (.quiet 2 (.quiet 3 (.quiet 4 (.quiet 5 (.quiet 6 (.quiet 7 (.quiet 8 (.quiet 9 .done)))))))))) (by kernel_rfl) (by kernel_rfl) (by intro c a w d v h; cases d <;> exact h) (fun ops HO => ?_)
          refine plan_read _ (hi_of HO rfl) rfl (fun w' hE => by have hcE := (Ext.trans _ _ _ (by (repeat (first | exact hx5.out | apply Ext.drew | apply Ext.alloc))) hE).hc; (repeat (with_reducible replace hE := Ext.unD hE)); have hcF := hE.hc; clear hE; go_simp; rfl) ?_
          simp only [Act.put, List.setIfInBounds_toArray, List.set_cons_succ, List.set_cons_zero]
          refine plan_read _ (hi_of HO rfl) rfl (fun w' hE => by have hcE := (Ext.trans _ _ _ (by (repeat (first | exact hx5.out | apply Ext.drew | apply Ext.alloc))) hE).hc; (repeat (with_reducible replace hE := Ext.unD hE)); have hcF := hE.hc; clear hE; go_simp; rfl) ?_
          simp only [Act.put, List.setIfInBounds_toArray, List.set_cons_succ, List.set_cons_zero]
          refine plan_read _ (hi_of HO rfl) rfl (fun w' hE => by have hcE := (Ext.trans _ _ _ (by (repeat (first | exact hx5.out | apply Ext.drew | apply Ext.alloc))) hE).hc; (repeat (with_reducible replace hE := Ext.unD hE)); have hcF := hE.hc; clear hE; go_simp; rfl) ?_
          simp only [Act.put, List.setIfInBounds_toArray, List.set_cons_succ, List.set_cons_zero]
          refine plan_read _ (hi_of HO rfl) rfl (fun w' hE => by have hcE := (Ext.trans _ _ _ (by (repeat (first | exact hx5.out | apply Ext.drew | apply Ext.alloc))) hE).hc; (repeat (with_reducible replace hE := Ext.unD hE)); have hcF := hE.hc; clear hE; go_simp; rfl) ?_
          simp only [Act.put, List.setIfInBounds_toArray, List.set_cons_succ, List.set_cons_zero]
          refine plan_read _ (hi_of HO rfl) rfl (fun w' hE => by have hcE := (Ext.trans _ _ _ (by (repeat (first | exact hx5.out | apply Ext.drew | apply Ext.alloc))) hE).hc; (repeat (with_reducible replace hE := Ext.unD hE)); have hcF := hE.hc; clear hE; go_simp; rfl) ?_
          simp only [Act.put, List.setIfInBounds_toArray, List.set_cons_succ, List.set_cons_zero]
          refine plan_read _ (hi_of HO rfl) rfl (fun w' hE => by have hcE := (Ext.trans _ _ _ (by (repeat (first | exact hx5.out | apply Ext.drew | apply Ext.alloc))) hE).hc; (repeat (with_reducible replace hE := Ext.unD hE)); have hcF := hE.hc; clear hE; go_simp; rfl) ?_
          simp only [Act.put, List.setIfInBounds_toArray, List.set_cons_succ, List.set_cons_zero]
          refine plan_read _ (hi_of HO rfl) rfl (fun w' hE => by have hcE := (Ext.trans _ _ _ (by (repeat (first | exact hx5.out | apply Ext.drew | apply Ext.alloc))) hE).hc; (repeat (with_reducible replace hE := Ext.unD hE)); have hcF := hE.hc; clear hE; go_simp; rfl) ?_
          simp only [Act.put, List.setIfInBounds_toArray, List.set_cons_succ, List.set_cons_zero]
          refine plan_read _ (hi_of HO rfl) rfl (fun w' hE => by have hcE := (Ext.trans _ _ _ (by (repeat (first | exact hx5.out | apply Ext.drew | apply Ext.alloc))) hE).hc; (repeat (with_reducible replace hE := Ext.unD hE)); have hcF := hE.hc; clear hE; go_simp; rfl) ?_
          simp only [Act.put, List.setIfInBounds_toArray, List.set_cons_succ, List.set_cons_zero]
          refine plan_read _ (hi_of HO rfl) rfl (fun w' hE => by have hcE := (Ext.trans _ _ _ (by (repeat (first | exact hx5.out | apply Ext.drew | apply Ext.alloc))) hE).hc; (repeat (with_reducible replace hE := Ext.unD hE)); have hcF := hE.hc; clear hE; go_simp; rfl) ?_
          simp only [Act.put, List.setIfInBounds_toArray, List.set_cons_succ, List.set_cons_zero]
          refine plan_read _ (hi_of HO rfl) rfl (fun w' hE => by have hcE := (Ext.trans _ _ _ (by (repeat (first | exact hx5.out | apply Ext.drew | apply Ext.alloc))) hE).hc; (repeat (with_reducible replace hE := Ext.unD hE)); have hcF := hE.hc; clear hE; go_simp; rfl) ?_
          simp only [Act.put, List.setIfInBounds_toArray, List.set_cons_succ, List.set_cons_zero]
          refine plan_done ?fin101
          go_wp2
          clear hlt4
          go_roundw
          case rel => exact ⟨m + 1 + 1, by omega, (by first | exact congrArg (Value.int .i64) HW.out | rfl), by omega, Ext.trans _ _ _ HX2.out (by (repeat (first | exact Ext.refl _ | apply Ext.drew_left | apply Ext.drew | apply Ext.alloc)))⟩
          case measure => (try simp only [HW.out]); simp [intOf]; omega
        · have hmm : ¬ ((k : Nat) : Int) < (ks.length : Int) := by omega
          go_wp2
          go_ret
          exact ⟨rfl, Ext.trans _ _ _ HX.out HX2.out⟩
def startsL (n p : Nat) : List Int := (List.range p).map fun j => ((j * n / p : Nat) : Int)
def startsTo (n p k : Nat) : List Int := (List.range k).map fun j => ((j * n / p : Nat) : Int)
theorem startsTo_succ (n p k : Nat) : startsTo n p (k + 1) = startsTo n p k ++ [((k * n / p : Nat) : Int)] := by unfold startsTo; rw [List.range_succ, List.map_append]; rfl
theorem startsTo_len (n p k : Nat) : (startsTo n p k).length = k := by unfold startsTo; simp
theorem r7Starts_any {w : World} (n p : Nat) (h1 : 1 ≤ p) (h2 : p ≤ n) (h3 : n ≤ 256) :
    Calls Tryd.prog 151 #[.int .i64 (n : Int), .int .i64 (p : Int)] w fun e w' => ∃ v, e = .returned (.tuple #[v, .int .i64 0]) ∧ OwG 3 1 cI w' w.heap.size v (startsL n p) ∧ Ext w w' := by
  have i1 : ¬ (n : Int) < 1 := by omega
  have i2 : ¬ (256 : Int) < (n : Int) := by omega
  have i3 : ¬ (p : Int) < 1 := by omega
  have i4 : ¬ (n : Int) < (p : Int) := by omega
  go_enter Tryd.func151, Tryd.ntmps151
  go_wp2_with fail
  go_loopw [6, 7] (fun v i wr => ∃ k : Nat, k ≤ p ∧ i = .int .i64 (k : Int) ∧ Ext w wr ∧ OwG 3 1 cI wr w.heap.size v (startsTo n p k)) (fun _ i _ => p - (intOf i).toNat)
  case atStart => exact ⟨0, Nat.zero_le _, rfl, by (repeat (first | exact Ext.refl _ | apply Ext.drew_left | apply Ext.drew | apply Ext.alloc)), ownG_empty (heap_alloc_new w (.cells #[] 3)) (Nat.le_refl _)⟩
  case round =>
    obtain ⟨k, hk, rfl, hx, ho⟩ := hrel
    have HX := hid_mk hx
    have HO := hid_mk ho
    clear hx ho
    by_cases hlt : k < p
    · have hk1 : (k : Int) < (p : Int) := by omega
      have hk0 : (0 : Int) ≤ (k : Int) := by omega
      have HW := hid_mk (show wrap64 ((k : Int) + 1) = (k : Int) + 1 from w64in (by omega))
      have hkn : (k : Int) * (n : Int) ≤ 65536 := by
        have h := Nat.mul_le_mul (show k ≤ 256 by omega) h3
        rw [← Int.natCast_mul]
        omega
      have hkn0 : (0 : Int) ≤ (k : Int) * (n : Int) := by rw [← Int.natCast_mul]; omega
      have hp0 : ¬ (p : Int) = 0 := by omega
      have hx1 : Ext wr (wr.alloc (.cells #[.int .i64 ((k : Int) * (n : Int) / (p : Int))] 3)) := by (repeat (first | exact Ext.refl _ | apply Ext.drew_left | apply Ext.drew | apply Ext.alloc))
      have hce : (k : Int) * (n : Int) / (p : Int) = ((k * n / p : Nat) : Int) := by rw [Int.natCast_ediv, Int.natCast_mul]
      obtain ⟨v', w', hrun, ho, hg, hob⟩ := appendG okI (w := wr.alloc (.cells #[.int .i64 ((k : Int) * (n : Int) / (p : Int))] 3)) (lv := .slice (some ⟨wr.heap.size, 0, none⟩) 1 1) (L := [((k * n / p : Nat) : Int)]) (HO.out.ext hx1) (OwG.sl (B := wr.heap.size) (t := 3) Nat.one_pos (fun _ => rfl) (ownG_new (by rw [← hce]; rfl) (heap_alloc_new wr _) (Nat.le_refl _))) (by rw [startsTo_len]; simp; omega) (by have := HX.out.below.size; simp; omega)
      have HB := hid_mk (show Ext w w' ∧ OwG 3 1 cI w' w.heap.size v' (startsTo n p (k + 1)) by rw [startsTo_succ]; exact ⟨ext_grown (Ext.trans _ _ _ HX.out hx1) hg (HO.out.ext hx1) (Nat.le_refl _), ho⟩)
      clear ho hg hob hx1 hce
      go_wp2
      go_roundw
      case rel => exact ⟨k + 1, hlt, (by first | exact congrArg (Value.int .i64) HW.out | rfl), HB.out.1, HB.out.2⟩
      case measure => (try simp only [HW.out]); simp [intOf]; omega
    · obtain rfl : k = p := by omega
      have hmm : ¬ ((k : Nat) : Int) < (k : Int) := by omega
      go_wp2
      refine bodyPost_ret (v := .tuple #[u6, .int .i64 0]) (by unfold results; rw [Tryd.results151]; go_simp; first | done | rfl) rfl ⟨_, rfl, HO.out, HX.out⟩
theorem int_infoI : ∃ i z, Tryd.prog.info? 3 = some i ∧ i.size = 1 ∧ i.bytes ≤ 128 ∧ i.zero = some z ∧ z.cells = #[.int .i64 0] := ⟨_, _, rfl, rfl, by decide, rfl, rfl⟩
theorem made_zeros (p : Nat) : (madeCells #[.int .i64 0] (p * 1)).toList = (List.replicate p (0 : Int)).flatMap cI := by
  have e1 : ∀ p : Nat, (List.replicate p (0 : Int)).flatMap cI = List.replicate p (.int .i64 0) := fun p => by
    induction p with
    | zero => rfl
    | succ p ih => rw [List.replicate_succ, List.flatMap_cons, ih, List.replicate_succ]; rfl
  rw [e1, madeCells, Array.toList_map, Array.toList_range]
  refine List.eq_replicate_iff.2 ⟨by simp, fun b hb => ?_⟩
  obtain ⟨i, -, rfl⟩ := List.mem_map.1 hb
  rw [show (#[Value.int .i64 0] : Array Value).size = 1 from rfl, Nat.mod_one]
  rfl
theorem cStarts_any {w : World} (n p : Nat) (h1 : 1 ≤ p) (h2 : p ≤ n) (h3 : n ≤ 256) :
    Calls Tryd.prog 137 #[.int .i64 (n : Int), .int .i64 (p : Int)] w fun e w' => ∃ v, e = .returned (.tuple #[v, .int .i64 0]) ∧ OwG 3 1 cI w' w.heap.size v (startsL n p) ∧ Ext w w' := by
  have i1 : ¬ (n : Int) < 1 := by omega
  have i2 : ¬ (256 : Int) < (n : Int) := by omega
  have i3 : ¬ (p : Int) < 1 := by omega
  have i4 : ¬ (n : Int) < (p : Int) := by omega
  obtain ⟨i0, z0, hinf, hs, hby, hz, hcc⟩ := int_infoI
  obtain ⟨W1, hrun, ho, hg⟩ := run_makeSlice_full w (P := Tryd.prog) w.heap.size 53 3 i0 z0 1 Tryd.underlying53 hinf hz hs .i64 .i64 p (by omega) (by have : i0.bytes * p ≤ 128 * 256 := Nat.mul_le_mul hby (by omega); omega) (by unfold maxLen; omega) (Nat.le_refl _)
  rw [hcc, made_zeros] at ho
  have HO1 := hid_mk (show OwG 3 1 cI W1 w.heap.size (.slice (some ⟨w.heap.size, 0, none⟩) p p) (startsTo n p 0 ++ List.replicate p 0) by unfold OwG; rw [show startsTo n p 0 = [] from rfl, List.nil_append, List.length_replicate]; exact ho)
  have HX1 := hid_mk (show Ext w W1 from Ext.of ⟨hg.os, hg.tape, hg.output, hg.size, fun k hk => hg.block k hk (by simp)⟩)
  clear ho hg hinf hs hby hz hcc
  go_enter Tryd.func137, Tryd.ntmps137
  go_wp2_with fail
  go_loopw [27] (fun i wr => ∃ k : Nat, k ≤ p ∧ i = .int .i64 (k : Int) ∧ Ext w wr ∧ OwG 3 1 cI wr w.heap.size (.slice (some ⟨w.heap.size, 0, none⟩) p p) (startsTo n p k ++ List.replicate (p - k) 0)) (fun i _ => p - (intOf i).toNat)
  case atStart => exact ⟨0, Nat.zero_le _, rfl, HX1.out, HO1.out⟩
  case round =>
    clear HX1 HO1 hrun
    obtain ⟨k, hk, rfl, hx, ho⟩ := hrel
    have HX := hid_mk hx
    have HO := hid_mk ho
    clear hx ho
    by_cases hlt : k < p
    · have hk1 : (k : Int) < (p : Int) := by omega
      have hk0 : (0 : Int) ≤ (k : Int) := by omega
      have HW := hid_mk (show wrap64 ((k : Int) + 1) = (k : Int) + 1 from w64in (by omega))
      have hkn : (k : Int) * (n : Int) ≤ 65536 := by
        have h := Nat.mul_le_mul (show k ≤ 256 by omega) h3
        rw [← Int.natCast_mul]
        omega
      have hkn0 : (0 : Int) ≤ (k : Int) * (n : Int) := by rw [← Int.natCast_mul]; omega
      have hp0 : ¬ (p : Int) = 0 := by omega
      have HCE := hid_mk (show (k : Int) * (n : Int) / (p : Int) = ((k * n / p : Nat) : Int) by rw [Int.natCast_ediv, Int.natCast_mul])
      have HLN := hid_mk (show (startsTo n p k ++ List.replicate (p - k) 0).length = p by rw [List.length_append, startsTo_len, List.length_replicate]; omega)
      have c0 : wr.cell? ⟨w.heap.size, k, none⟩ = some (.int .i64 0) := OwG.cell1 (fun _ => rfl) HO.out rfl (by rw [List.getElem?_append_right (by rw [startsTo_len]; omega), startsTo_len, Nat.sub_self, List.getElem?_replicate, if_pos (by omega)]) rfl
      have f0 : wr.frozen? ⟨w.heap.size, k, none⟩ = false := own_frozen HO.out rfl _
      have cl := cell_lt c0
      have HSE := hid_mk (show (startsTo n p k ++ List.replicate (p - k) 0).set k ((k * n / p : Nat) : Int) = startsTo n p (k + 1) ++ List.replicate (p - (k + 1)) 0 by
        obtain ⟨q, hq⟩ : ∃ q, p - k = q + 1 := ⟨p - k - 1, by omega⟩
        rw [List.set_append_right _ _ (by rw [startsTo_len]; omega), startsTo_len, Nat.sub_self, startsTo_succ, hq, show p - (k + 1) = q by omega, List.replicate_succ, List.set_cons_zero, List.append_assoc]
        rfl)
      go_wp2
      go_roundw
      case rel =>
        refine ⟨k + 1, hlt, (by first | exact congrArg (Value.int .i64) HW.out | rfl), Xl.ext HX.out (L := [w.heap.size]) ((Xl.refl wr).set (by simp)) (by simp), ?_⟩
        rw [← HSE.out, HCE.out]
        have h := OwG.set1 (f := cI) (fun _ => rfl) (show OwG 3 1 cI wr w.heap.size (.slice (some ⟨w.heap.size, 0, none⟩) (startsTo n p k ++ List.replicate (p - k) 0).length p) (startsTo n p k ++ List.replicate (p - k) 0) by rw [HLN.out]; exact HO.out) (i := k) (x := ((k * n / p : Nat) : Int)) (by rw [HLN.out]; exact hlt) rfl
        rw [List.length_set, HLN.out] at h
        exact h
      case measure => (try simp only [HW.out]); simp [intOf]; omega
    · obtain rfl : k = p := by omega
      have hmm : ¬ ((k : Nat) : Int) < (k : Int) := by omega
      rw [Nat.sub_self, List.replicate_zero, List.append_nil] at HO
      go_wp2
      refine bodyPost_ret (v := .tuple #[.slice (some ⟨w.heap.size, 0, none⟩) k k, .int .i64 0]) (by unfold results; rw [Tryd.results137]; go_simp; first | done | rfl) rfl ⟨_, rfl, HO.out, HX.out⟩
end Go.Proofs.YtokcgnbjkbhmiaaDoor
