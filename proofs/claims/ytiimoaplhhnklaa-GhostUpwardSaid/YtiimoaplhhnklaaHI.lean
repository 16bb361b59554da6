/- Ghosts: GhostUpward, walked. -/
import Derived.Test.YtiimoaplhhnklaaHH
namespace Go.Proofs.Ytiimoaplhhnklaa
open Go.RowKit Go.Shelf
set_option maxHeartbeats 4000000
set_option maxRecDepth 100000
set_option linter.unusedSimpArgs false
set_option linter.unusedVariables false
attribute [local go_sem ↓] eql_entE neq_entE

def wroteN (N A : List Ent) : List Ent := N.foldl (fun A e => wroteA e A) A
theorem wroteN_take {N : List Ent} {m : Nat} (h : m < N.length) : wroteN (N.take (m + 1)) [] = wroteA N[m] (wroteN (N.take m) []) := by
  unfold wroteN
  rw [List.take_succ_eq_append_getElem h, List.foldl_append]
  rfl
theorem held_ok {A : List Ent} {ls : Nat → List Ent} (h : LsOK A ls) (n : Int) : mChk (heldL n ls) = 0 ∧ (heldL n ls).length ≤ 1073741824 ∧ ∀ x ∈ heldL n ls, findN (nk x) A = some x := by
  unfold heldL
  split
  · rename_i hn
    obtain ⟨k, hk, rfl⟩ := isNd_at hn
    rw [Int.toNat_natCast]
    exact ⟨(h.ok k hk).1, (h.ok k hk).2, h.wr k hk⟩
  · exact ⟨rfl, by simp, fun x hx => by cases hx⟩
theorem held_nil (n : Int) : heldL n (fun _ => []) = [] := by unfold heldL; split <;> rfl
theorem ghostUpward_walk (N : List Ent) (S : List (List Ent)) (v0 v1 : Value) (nd : Int) (W : World) (hN : EntSl W v0 N) (hS : SnSl W v1 S) :
    Calls Try.prog 4 #[v0, v1, .int .i64 nd] W fun e w' => e = .returned (.bool true) ∧ Ext W w' := by
  have HN := hid_mk hN
  obtain ⟨na, nc, rfl, hnc, hnl, hn⟩ := hN
  obtain ⟨sa, sc, rfl, hsc, hsl, hs⟩ := hS
  have HC := hid_mk hn
  have HS := hid_mk hs
  clear hn hs
  go_enter Try.func4, Try.ntmps4
  go_wp2_with fail
  refine (weigh_any _ N HN.out).mono ?_
  rintro e W1 ⟨n0, rfl, hn0, hn1, hn2, hx1⟩
  have HX1 := hid_mk hx1
  have HN2 := hid_mk hn2
  clear hx1 hn2
  go_wp2_with fail
  go_loopw [7, 8] (fun s i wr => ∃ k : Nat, ∃ n : Int, k ≤ S.length ∧ i = .int .i64 (k : Int) ∧ s = .int .i64 n ∧ 0 ≤ n ∧ n ≤ 5000000000 ∧ (n < 16384 → ∀ j, (hj : j < k) → ∀ hj' : j < S.length, (S[j]).length ≤ 16384) ∧ Ext W wr) (fun _ i _ => S.length - (intOf i).toNat)
  case atStart => exact ⟨0, n0, Nat.zero_le _, rfl, rfl, hn0, by omega, fun _ j hj => by omega, HX1.out⟩
  case round =>
    clear HX1 HN2 hn0 hn1
    obtain ⟨k, n, hk, rfl, rfl, hn0, hn1, hf, hx⟩ := hrel
    have HF := hid_mk hf
    have HX := hid_mk hx
    clear hf hx
    by_cases hbig : n < 16384
    · by_cases hlt : k < S.length
      · obtain ⟨b, o, rfl, hcl⟩ := HS.out (by omega)
        obtain ⟨sv, c0, hsl0⟩ := hcl k hlt
        have HSL := hid_mk (hsl0.ext HX.out)
        obtain ⟨sva, svc, rfl, -⟩ := hsl0
        replace c0 := cell_ext HX.out c0
        have hcl0 := cell_lt c0
        have hk1 : (k : Int) < (S.length : Int) := by omega
        have hk0 : (0 : Int) ≤ (k : Int) := by omega
        have HW := hid_mk (show wrap64 ((k : Int) + 1) = (k : Int) + 1 from w64in (by omega))
        clear hcl
        go_wp2_with fail
        refine (weigh_any _ S[k] HSL.out).mono ?_
        rintro e W2 ⟨m, rfl, hm0, hm1, hm2, hx2⟩
        have HX2 := hid_mk (Ext.trans _ _ _ HX.out hx2)
        have HM := hid_mk (show IntKind.i64.wrap (n + IntKind.i64.wrap (1 + m)) = n + (1 + m) by rw [wrapZ (1 + m) (by omega), wrapZ (n + (1 + m)) (by omega)])
        clear hx2
        go_wp2
        go_roundw
        case rel =>
          refine ⟨k + 1, n + (1 + m), by omega, (by first | exact congrArg (Value.int .i64) HW.out | rfl), (by first | exact congrArg (Value.int .i64) HM.out | rfl), by omega, by omega, fun hlow j hj hj' => ?_, HX2.out⟩
          by_cases hjk : j = k
          · subst hjk
            have := hm2 (by omega)
            omega
          · exact HF.out hbig j (by omega) hj'
        case measure => (try simp only [HW.out]); simp [intOf]; omega
      · obtain rfl : k = S.length := by omega
        have hmm : ¬ ((S.length : Nat) : Int) < (S.length : Int) := by omega
        have hg : ¬ (16384 : Int) ≤ n := by omega
        have HLEN := hid_mk (fun j (hj : j < S.length) => HF.out hbig j hj hj)
        clear HF
        by_cases hnb : 512 < N.length
        · have h1 : (512 : Int) < (N.length : Int) := by omega
          go_wp2
          go_ret
          exact ⟨rfl, HX.out⟩
        have h1 : ¬ (512 : Int) < (N.length : Int) := by omega
        by_cases hsb : 256 < S.length
        · have h2 : (256 : Int) < (S.length : Int) := by omega
          go_wp2
          go_ret
          exact ⟨rfl, HX.out⟩
        have h2 : ¬ (256 : Int) < (S.length : Int) := by omega
        go_wp2_with fail
        refine (gnew_any _).mono ?_
        rintro e W3 ⟨gb, mb, rfl, hgl, hml, hgh, hx3⟩
        have hz := HX.out.below.size
        have HU := hid_mk (show UV W W3 gb mb [] (fun _ => .slice none 0 0) (fun _ => []) from ⟨hgh, Ext.trans _ _ _ HX.out hx3, by omega, by omega⟩)
        clear hgh hx3 hgl hml hz
        go_wp2_with fail
        go_loopw [10] (fun i wr => ∃ m : Nat, m ≤ N.length ∧ i = .int .i64 (m : Int) ∧ ∃ sv, UV W wr gb mb (wroteN (N.take m) []) sv (fun _ => [])) (fun i _ => N.length - (intOf i).toNat)
        case atStart => exact ⟨0, Nat.zero_le _, rfl, _, HU.out⟩
        case round =>
          clear HU
          obtain ⟨m, hm, rfl, sv, hu⟩ := hrel
          have HU := hid_mk hu
          clear hu
          by_cases hlt : m < N.length
          · obtain ⟨b, o, rfl, hcl⟩ := HC.out (by omega)
            obtain ⟨a0, a1, a2, a3, a4⟩ := (hcl m hlt).ext HU.out.x
            have hbl := cell_lt a0
            have HT := hid_mk (wroteN_take hlt)
            obtain ⟨x, hx⟩ : ∃ x, N[m] = x := ⟨_, rfl⟩
            rw [hx] at a0 a1 a2 a3 a4 HT
            have hm1 : (m : Int) < (N.length : Int) := by omega
            have hm0 : (0 : Int) ≤ (m : Int) := by omega
            have HW := hid_mk (show wrap64 ((m : Int) + 1) = (m : Int) + 1 from w64in (by omega))
            clear hcl hx
            go_wp2_with fail
            refine (gwrote_any HU.out.g x).mono ?_
            rintro e w5 ⟨rfl, hp5⟩
            obtain ⟨⟨sv', hu5⟩, -⟩ := HU.out.post hp5
            have HU5 := hid_mk hu5
            clear hp5 hu5
            go_wp2
            go_roundw
            case rel => exact ⟨m + 1, hlt, (by first | exact congrArg (Value.int .i64) HW.out | rfl), sv', by rw [HT.out]; exact HU5.out⟩
            case measure => (try simp only [HW.out]); simp [intOf]; omega
          · obtain rfl : m = N.length := by omega
            rw [List.take_length] at HU
            have hmn : ¬ ((N.length : Nat) : Int) < (N.length : Int) := by omega
            obtain ⟨A, hA⟩ : ∃ A, wroteN N [] = A := ⟨_, rfl⟩
            rw [hA] at HU
            clear hA hlt hm
            go_wp2_with fail
            have HU0 := hid_mk (HU.out.ext (show Ext wr (wr.alloc (.cells #[] 31)) by (repeat (first | exact Ext.refl _ | apply Ext.drew_left | apply Ext.drew | apply Ext.alloc))))
            have HEW := hid_mk (show EntSl (wr.alloc (.cells #[] 31)) (.slice (some ⟨wr.heap.size, 0, none⟩) 0 0) (heldL nd fun _ => []) ∧ EAway [gb, mb] (.slice (some ⟨wr.heap.size, 0, none⟩) 0 0) from ⟨by rw [held_nil]; exact ⟨_, 0, rfl, Nat.le_refl _, by simp, fun h => by simp at h⟩, fun b o n c e hn => by cases e; omega⟩)
            have HOK0 := hid_mk (show LsOK A (fun _ => []) from ⟨fun i hi => ⟨rfl, by simp⟩, fun i hi x hx => by cases hx⟩)
            go_loopw [11, 12] (fun lv i wr => ∃ q : Nat, q ≤ S.length ∧ i = .int .i64 (q : Int) ∧ ∃ sv ls, EntSl wr lv (heldL nd ls) ∧ EAway [gb, mb] lv ∧ UV W wr gb mb A sv ls ∧ LsOK A ls) (fun _ i _ => S.length - (intOf i).toNat)
            case atStart => exact ⟨0, Nat.zero_le _, rfl, _, _, HEW.out.1, HEW.out.2, HU0.out, HOK0.out⟩
            case round =>
              clear HU0 HEW HOK0 HU
              rename_i lv
              obtain ⟨q, hq, rfl, sv1, ls, hls, hla, hu, hok⟩ := hrel
              have HU := hid_mk hu
              have HOK := hid_mk hok
              clear hu hok
              by_cases hlt : q < S.length
              · obtain ⟨b, o, rfl, hcl⟩ := HS.out (by omega)
                obtain ⟨svv, c0, hsl0⟩ := hcl q hlt
                have HSL := hid_mk (hsl0.ext HU.out.x)
                have HSW := hid_mk hsl0
                obtain ⟨sva, svc, rfl, -⟩ := hsl0
                have HC0 := hid_mk c0
                replace c0 := cell_ext HU.out.x c0
                have hcl0 := cell_lt c0
                have hq1 : (q : Int) < (S.length : Int) := by omega
                have hq0 : (0 : Int) ≤ (q : Int) := by omega
                have HW := hid_mk (show wrap64 ((q : Int) + 1) = (q : Int) + 1 from w64in (by omega))
                have HLL := hid_mk (show (S[q]).length ≤ 1073741824 by have := HLEN.out q hlt; omega)
                obtain ⟨l, hl⟩ : ∃ l, S[q] = l := ⟨_, rfl⟩
                rw [hl] at c0 HSL HLL HSW HC0
                have HLA := hid_mk (And.intro hls hla)
                obtain ⟨la, lc, rfl, -⟩ := hls
                obtain ⟨st1, st2, st3, st4⟩ := sees_step (n := nd) HOK.out HLL.out
                have hst : ((seesR nd l A ls).2 = 0 ∧ heldL nd (seesLs nd l A ls) = l) ∨ (¬ (seesR nd l A ls).2 = 0 ∧ heldL nd (seesLs nd l A ls) = heldL nd ls) := by
                  by_cases ho : seesO nd l A ls = none
                  · exact .inl ⟨(st3 ho).2, (st3 ho).1⟩
                  · exact .inr ⟨(st4 ho).2, (st4 ho).1⟩
                have HCALL := hid_mk (gsees_any HU.out.g HOK.out.ok nd _ l HSL.out HLL.out)
                obtain ⟨rs, hrs⟩ : ∃ rs, seesR nd l A ls = rs := ⟨_, rfl⟩
                obtain ⟨ls', hls'⟩ : ∃ ls', seesLs nd l A ls = ls' := ⟨_, rfl⟩
                rw [hrs, hls'] at hst HCALL
                rw [hls'] at st1 st2
                obtain ⟨re1, re2⟩ := rs
                dsimp only at hst HCALL
                have HST := hid_mk hst
                have HOK' := hid_mk st1
                have HUP := hid_mk st2
                clear hrs hls' hl hcl hla st1 st2 st3 st4 hst
                go_wp2_with fail
                refine HCALL.out.mono ?_
                rintro e w5 ⟨rfl, hp5⟩
                obtain ⟨⟨sv8, hu5⟩, hxl5⟩ := HU.out.post hp5
                have HU5 := hid_mk hu5
                have HL5 := hid_mk (HLA.out.1.xl hxl5 HLA.out.2)
                clear hp5 hu5 hxl5 HCALL
                go_wp2_with fail
                refine (gheld_any HU5.out.g nd (fun i hi => (HOK'.out.ok i hi).2)).mono ?_
                rintro e w6 ⟨v6, rfl, hen, -, hx6⟩
                have HNS := hid_mk (And.intro hen.1 (show EAway [gb, mb] v6 from hen.away (by have := HU5.out.g.lt; simp; omega)))
                have HU6 := hid_mk (HU5.out.ext hx6)
                have HL6 := hid_mk (HL5.out.ext hx6)
                clear hx6 hen
                have HHO := hid_mk (held_ok HOK'.out nd)
                obtain ⟨L', hL'⟩ : ∃ L', heldL nd ls' = L' := ⟨_, rfl⟩
                have HLE := hid_mk hL'
                rw [hL'] at HNS HHO HUP HST
                clear hL'
                obtain ⟨va, vc, rfl, hv1, hv2, hv3⟩ := HNS.out.1
                have HNC := hid_mk hv3
                clear hv3
                go_wp2_with fail
                refine (mAbove_any L' (heldL nd ls) _ _ HNS.out.1 HL6.out HHO.out.1 (held_ok HOK.out nd).1 HUP.out).mono ?_
                rintro e w7 ⟨rfl, hx7⟩
                have HU7 := hid_mk (HU6.out.ext hx7)
                have HX7 := hid_mk hx7
                have c7 := cell_ext HU7.out.x HC0.out
                have cl7 := cell_lt c7
                clear c0 hcl0 hx7
                rcases HST.out with ⟨hr, hL⟩ | ⟨hr, hL⟩
                · subst hr
                  have HD := hid_mk (show decide (L' = l) = true from decide_eq_true hL)
                  clear hL
                  go_wp2_with fail
                  refine (ghSame_any _ _ L' l (HNS.out.1.ext HX7.out) (HSW.out.ext HU7.out.x)).mono ?_
                  rintro e W8 ⟨rfl, hx8⟩
                  rw [HD.out]
                  have HX8 := hid_mk (Ext.trans _ _ _ HX7.out hx8)
                  have HU8 := hid_mk (HU7.out.ext hx8)
                  clear hx8 c7 cl7
                  go_wp2_with fail
                  go_loopw [18] (fun i wr => ∃ m : Nat, m ≤ L'.length ∧ i = .int .i64 (m : Int) ∧ Ext W8 wr) (fun i _ => L'.length - (intOf i).toNat)
                  case atStart => exact ⟨0, Nat.zero_le _, rfl, Ext.refl _⟩
                  case round =>
                    obtain ⟨m, hm, rfl, hx9⟩ := hrel
                    have HX9 := hid_mk hx9
                    clear hx9
                    by_cases hlt2 : m < L'.length
                    · obtain ⟨b2, o2, e2, hcl2⟩ := HNC.out (by omega)
                      subst e2
                      obtain ⟨a0, a1, a2, a3, a4⟩ := (hcl2 m hlt2).ext (Ext.trans _ _ _ HX8.out HX9.out)
                      have hbl2 := cell_lt a0
                      have HFN := hid_mk (HHO.out.2.2 (L'[m]) (List.getElem_mem hlt2))
                      obtain ⟨x, hx⟩ : ∃ x, L'[m] = x := ⟨_, rfl⟩
                      rw [hx] at a0 a1 a2 a3 a4 HFN
                      have hm1 : (m : Int) < (L'.length : Int) := by omega
                      have hm0 : (0 : Int) ≤ (m : Int) := by omega
                      have HW2 := hid_mk (show wrap64 ((m : Int) + 1) = (m : Int) + 1 from w64in (by have := HHO.out.2.1; omega))
                      clear hcl2 hx
                      go_wp2_with fail
                      refine (written_any (HU8.out.ext HX9.out).g x).mono ?_
                      rintro e w10 ⟨rfl, hx10⟩
                      rw [show decide (findN (nk x) A = some x) = true from decide_eq_true HFN.out]
                      have HX10 := hid_mk (Ext.trans _ _ _ HX9.out hx10)
                      clear hx10
                      go_wp2
                      go_roundw
                      case rel => exact ⟨m + 1, hlt2, (by first | exact congrArg (Value.int .i64) HW2.out | rfl), HX10.out⟩
                      case measure => (try simp only [HW2.out]); simp [intOf]; omega
                    · obtain rfl : m = L'.length := by omega
                      have hmn2 : ¬ ((L'.length : Nat) : Int) < (L'.length : Int) := by omega
                      go_wp2
                      go_roundw
                      case rel => exact ⟨q + 1, hlt, (by first | exact congrArg (Value.int .i64) HW.out | rfl), sv8, ls', (by rw [HLE.out]; exact HNS.out.1.ext (Ext.trans _ _ _ HX8.out HX9.out)), HNS.out.2, HU8.out.ext HX9.out, HOK'.out⟩
                      case measure => (try simp only [HW.out]); simp [intOf]; omega
                · have hr1 : (re2 == 0) = false := by simpa using hr
                  have HD := hid_mk (show decide (L' = heldL nd ls) = true from decide_eq_true hL)
                  clear hL
                  go_wp2_with fail
                  refine (ghSame_any _ _ L' (heldL nd ls) (HNS.out.1.ext HX7.out) (HL6.out.ext HX7.out)).mono ?_
                  rintro e W8 ⟨rfl, hx8⟩
                  rw [HD.out]
                  have HX8 := hid_mk (Ext.trans _ _ _ HX7.out hx8)
                  have HU8 := hid_mk (HU7.out.ext hx8)
                  clear hx8 c7 cl7
                  go_wp2_with fail
                  go_loopw [18] (fun i wr => ∃ m : Nat, m ≤ L'.length ∧ i = .int .i64 (m : Int) ∧ Ext W8 wr) (fun i _ => L'.length - (intOf i).toNat)
                  case atStart => exact ⟨0, Nat.zero_le _, rfl, Ext.refl _⟩
                  case round =>
                    obtain ⟨m, hm, rfl, hx9⟩ := hrel
                    have HX9 := hid_mk hx9
                    clear hx9
                    by_cases hlt2 : m < L'.length
                    · obtain ⟨b2, o2, e2, hcl2⟩ := HNC.out (by omega)
                      subst e2
                      obtain ⟨a0, a1, a2, a3, a4⟩ := (hcl2 m hlt2).ext (Ext.trans _ _ _ HX8.out HX9.out)
                      have hbl2 := cell_lt a0
                      have HFN := hid_mk (HHO.out.2.2 (L'[m]) (List.getElem_mem hlt2))
                      obtain ⟨x, hx⟩ : ∃ x, L'[m] = x := ⟨_, rfl⟩
                      rw [hx] at a0 a1 a2 a3 a4 HFN
                      have hm1 : (m : Int) < (L'.length : Int) := by omega
                      have hm0 : (0 : Int) ≤ (m : Int) := by omega
                      have HW2 := hid_mk (show wrap64 ((m : Int) + 1) = (m : Int) + 1 from w64in (by have := HHO.out.2.1; omega))
                      clear hcl2 hx
                      go_wp2_with fail
                      refine (written_any (HU8.out.ext HX9.out).g x).mono ?_
                      rintro e w10 ⟨rfl, hx10⟩
                      rw [show decide (findN (nk x) A = some x) = true from decide_eq_true HFN.out]
                      have HX10 := hid_mk (Ext.trans _ _ _ HX9.out hx10)
                      clear hx10
                      go_wp2
                      go_roundw
                      case rel => exact ⟨m + 1, hlt2, (by first | exact congrArg (Value.int .i64) HW2.out | rfl), HX10.out⟩
                      case measure => (try simp only [HW2.out]); simp [intOf]; omega
                    · obtain rfl : m = L'.length := by omega
                      have hmn2 : ¬ ((L'.length : Nat) : Int) < (L'.length : Int) := by omega
                      go_wp2
                      go_roundw
                      case rel => exact ⟨q + 1, hlt, (by first | exact congrArg (Value.int .i64) HW.out | rfl), sv8, ls', (by rw [HLE.out]; exact HNS.out.1.ext (Ext.trans _ _ _ HX8.out HX9.out)), HNS.out.2, HU8.out.ext HX9.out, HOK'.out⟩
                      case measure => (try simp only [HW.out]); simp [intOf]; omega
              · obtain rfl : q = S.length := by omega
                have hmq : ¬ ((S.length : Nat) : Int) < (S.length : Int) := by omega
                go_wp2
                go_ret
                exact ⟨rfl, HU.out.x⟩
    · have hg : (16384 : Int) ≤ n := by omega
      go_wp2
      all_goals go_ret
      all_goals exact ⟨rfl, HX.out⟩
end Go.Proofs.Ytiimoaplhhnklaa
