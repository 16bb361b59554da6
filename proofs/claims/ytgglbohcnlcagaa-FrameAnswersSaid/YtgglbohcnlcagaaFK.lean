/- Entries counted, two frames compared: the program's side, and the document's count. -/
import Derived.Test.YtgglbohcnlcagaaFD
import Derived.Test.YtgglbohcnlcagaaFA
namespace Go.Proofs.Ytgglbohcnlcagaa
open Go.RowKit
set_option maxHeartbeats 8000000
set_option maxRecDepth 100000
set_option linter.unusedSimpArgs false
set_option linter.unusedVariables false
theorem en_rEntries : Enters Try.prog 28 := ⟨_, Try.func28, by kernel_rfl, rfl⟩
theorem en_equalEnt : Enters Try.prog 80 := ⟨_, Try.func80, by kernel_rfl, rfl⟩
theorem en_fSame : Enters Try.prog 29 := ⟨_, Try.func29, by kernel_rfl, rfl⟩

theorem rEntries_any (f t o li nu tu : Int) (l : List Prt) (sv : Value) (w : World) (hs : PrtSl w sv l) :
    Calls Try.prog 28 #[.agg #[.int .i64 f, .int .i64 t, .int .i64 o, .int .i64 li, .int .i64 nu, .int .i64 tu, sv]] w fun e w' => e = .returned (.int .i64 (entsNum l)) ∧ Ext w w' := by
  obtain ⟨a, c, rfl, hlc, hl63, hcells⟩ := hs
  have HC := hid_mk hcells
  clear hcells
  go_enter Try.func28, Try.ntmps28
  go_wp2
  go_loop [3, 4] (fun n i => ∃ k : Nat, k ≤ l.length ∧ i = .int .i64 k ∧ n = .int .i64 (entsNum (l.take k))) (fun _ i => l.length - (intOf i).toNat)
  case atStart => exact ⟨0, Nat.zero_le _, rfl, by simp [entsNum]⟩
  case round =>
    obtain ⟨k, hk, rfl, rfl⟩ := hrel
    by_cases hlt : k < l.length
    · obtain ⟨b, o', rfl, hcl⟩ := HC.out (by omega)
      obtain ⟨pv, hA⟩ := hcl k hlt
      clear hcl
      have hA := hA.ext (Ext.alloc (Ext.refl w) (.cells #[.int .i64 f, .int .i64 t, .int .i64 o, .int .i64 li, .int .i64 nu, .int .i64 tu, .slice (some ⟨b, o', none⟩) l.length c] 26))
      have a7 := hA.c7
      obtain ⟨ea, ec, rfl, -, -, -⟩ := hA.es
      clear hA
      have HN := hid_mk (entsNum_take_succ l k hlt)
      generalize entsNum (l.take k) = n at *
      generalize l[k].ents.length = m at *
      go_wp2
      go_round
      case rel => exact ⟨k + 1, by omega, by go_num, by rw [HN.out]; exact congrArg (Value.int .i64) (wrap64_is _).symm⟩
      case measure => simp [intOf]; omega
    · have e : k = l.length := by omega
      subst e
      rw [List.take_length]
      go_wp2
      go_ret
      exact ⟨rfl, by (repeat (first | exact Ext.refl _ | apply Ext.drew_left | apply Ext.drew | apply Ext.alloc))⟩
attribute [local go_sem ↓] neq_rng' neq_tally' neq_ent

open Classical in
noncomputable def sameE (l l' : List Ent) : Bool := decide (l = l')
theorem equalEnt_any (l l' : List Ent) (sv sv' : Value) (w : World) (hs : EntSl w sv l) (hs' : EntSl w sv' l') :
    Calls Try.prog 80 #[sv, sv'] w fun e w' => e = .returned (.bool (sameE l l')) ∧ Ext w w' := by
  obtain ⟨a, c, rfl, hlc, hl63, hcells⟩ := hs
  have HC := hid_mk hcells
  clear hcells
  obtain ⟨a', c', rfl, hlc', hl63', hcells⟩ := hs'
  have HC' := hid_mk hcells
  clear hcells
  have HNE0 := hid_mk (show l ≠ l' → sameE l l' = false from fun h => by simp [sameE, h])
  have HEQ0 := hid_mk (show l = l' → sameE l l' = true from fun h => by simp [sameE, h])
  go_enter Try.func80, Try.ntmps80
  by_cases hlen : l.length = l'.length
  · have hlb : ((l.length : Int) != (l'.length : Int)) = false := by simp; omega
    have HLEN := hid_mk hlen
    clear hlen
    go_wp2
    go_loopw [13] (fun i wr => ∃ k : Nat, k ≤ l.length ∧ i = .int .i64 k ∧ l.take k = l'.take k ∧ Ext w wr) (fun i _ => l.length - (intOf i).toNat)
    case atStart => exact ⟨0, Nat.zero_le _, rfl, rfl, Ext.refl _⟩
    case round =>
      obtain ⟨k, hk, rfl, ht, hx⟩ := hrel
      have HX := hid_mk hx
      have hx3 := hx
      clear hx
      have hc3 := hx3.hc; have hl3 := hx3.hl; have he3 := hx3.hle; have hn3 := hx3.hne; replace hx3 := hid_mk hx3
      have HT := hid_mk ht
      clear ht
      by_cases hlt : k < l.length
      · have hlt' : k < l'.length := by have := HLEN.out; omega
        obtain ⟨d, u, rfl, hd⟩ := HC.out (by omega)
        obtain ⟨d', u', rfl, hd'⟩ := HC'.out (by omega)
        have hD := (hd k hlt).ext HX.out
        have hD' := (hd' k hlt').ext HX.out
        clear hd hd'
        have HN3 := hid_mk (show l[k] ≠ l'[k] → sameE l l' = false from fun h => HNE0.out (fun e => h (by subst e; rfl)))
        have HM3 := hid_mk (take_more hlt hlt' HT.out)
        generalize l[k] = x at *
        generalize l'[k] = y at *
        obtain ⟨xk, xc, xn, xv, xd⟩ := x
        obtain ⟨yk, yc, yn, yv, yd⟩ := y
        obtain ⟨d0, d1, d2, d3, d4⟩ := hD
        obtain ⟨e0, e1, e2, e3, e4⟩ := hD'
        dsimp only at d0 d1 d2 d3 d4 e0 e1 e2 e3 e4
        have hdl := cell_lt d0
        have hel := cell_lt e0
        have hm1 : (k : Int) < (l.length : Int) := by omega
        have hm2 : (k : Int) < (l'.length : Int) := by omega
        go_wp2_with fail
        refine wp_region_held_below (fun _ => true) (.quiet 0 (.quiet 1 (.quiet 2 (.quiet 3 (.quiet 4 (.quiet 5 (.quiet 6 (.quiet 7 (.quiet 8 .done))))))))) (by kernel_rfl) (by kernel_rfl) (by intro c a w d v h; cases d <;> exact h) (fun ops HO => ?_)
        refine plan_read _ (hi_of HO rfl) rfl (fun w' hE => by have hcE := (Ext.trans _ _ _ (by (repeat (first | exact hx3.out | apply Ext.drew | apply Ext.alloc))) hE).hc; (first | replace hE := Ext.unD hE | skip); have hcF := hE.hc; clear hE; go_simp; rfl) ?_
        simp only [Act.put, List.setIfInBounds_toArray, List.set_cons_succ, List.set_cons_zero]
        refine plan_read _ (hi_of HO rfl) rfl (fun w' hE => by have hcE := (Ext.trans _ _ _ (by (repeat (first | exact hx3.out | apply Ext.drew | apply Ext.alloc))) hE).hc; (first | replace hE := Ext.unD hE | skip); have hcF := hE.hc; clear hE; go_simp; rfl) ?_
        simp only [Act.put, List.setIfInBounds_toArray, List.set_cons_succ, List.set_cons_zero]
        refine plan_read _ (hi_of HO rfl) rfl (fun w' hE => by have hcE := (Ext.trans _ _ _ (by (repeat (first | exact hx3.out | apply Ext.drew | apply Ext.alloc))) hE).hc; (first | replace hE := Ext.unD hE | skip); have hcF := hE.hc; clear hE; go_simp; rfl) ?_
        simp only [Act.put, List.setIfInBounds_toArray, List.set_cons_succ, List.set_cons_zero]
        refine plan_read _ (hi_of HO rfl) rfl (fun w' hE => by have hcE := (Ext.trans _ _ _ (by (repeat (first | exact hx3.out | apply Ext.drew | apply Ext.alloc))) hE).hc; (first | replace hE := Ext.unD hE | skip); have hcF := hE.hc; clear hE; go_simp; rfl) ?_
        simp only [Act.put, List.setIfInBounds_toArray, List.set_cons_succ, List.set_cons_zero]
        refine plan_read _ (hi_of HO rfl) rfl (fun w' hE => by have hcE := (Ext.trans _ _ _ (by (repeat (first | exact hx3.out | apply Ext.drew | apply Ext.alloc))) hE).hc; (first | replace hE := Ext.unD hE | skip); have hcF := hE.hc; clear hE; go_simp; rfl) ?_
        simp only [Act.put, List.setIfInBounds_toArray, List.set_cons_succ, List.set_cons_zero]
        refine plan_read _ (hi_of HO rfl) rfl (fun w' hE => by have hcE := (Ext.trans _ _ _ (by (repeat (first | exact hx3.out | apply Ext.drew | apply Ext.alloc))) hE).hc; (first | replace hE := Ext.unD hE | skip); have hcF := hE.hc; clear hE; go_simp; rfl) ?_
        simp only [Act.put, List.setIfInBounds_toArray, List.set_cons_succ, List.set_cons_zero]
        refine plan_read _ (hi_of HO rfl) rfl (fun w' hE => by have hcE := (Ext.trans _ _ _ (by (repeat (first | exact hx3.out | apply Ext.drew | apply Ext.alloc))) hE).hc; (first | replace hE := Ext.unD hE | skip); have hcF := hE.hc; clear hE; go_simp; rfl) ?_
        simp only [Act.put, List.setIfInBounds_toArray, List.set_cons_succ, List.set_cons_zero]
        refine plan_read _ (hi_of HO rfl) rfl (fun w' hE => by have hcE := (Ext.trans _ _ _ (by (repeat (first | exact hx3.out | apply Ext.drew | apply Ext.alloc))) hE).hc; (first | replace hE := Ext.unD hE | skip); have hcF := hE.hc; clear hE; go_simp; rfl) ?_
        simp only [Act.put, List.setIfInBounds_toArray, List.set_cons_succ, List.set_cons_zero]
        refine plan_read _ (hi_of HO rfl) rfl (fun w' hE => by have hcE := (Ext.trans _ _ _ (by (repeat (first | exact hx3.out | apply Ext.drew | apply Ext.alloc))) hE).hc; (first | replace hE := Ext.unD hE | skip); have hcF := hE.hc; clear hE; go_simp; rfl) ?_
        simp only [Act.put, List.setIfInBounds_toArray, List.set_cons_succ, List.set_cons_zero]
        refine plan_done ?fin101
        go_wp2
        all_goals first
          | (go_roundw
             case rel =>
               have hq : neEnt xk xv yk yv xd yd xc xn yc yn = false := by assumption
               obtain ⟨g1, rfl, rfl, g2, rfl⟩ := neEnt_false hq
               obtain rfl : xk = yk := ba_ext g1
               obtain rfl : xv = yv := ba_ext g2
               exact ⟨k + 1, by omega, by go_num, HM3.out rfl, Ext.trans _ _ _ hx3.out (by (repeat (first | exact Ext.refl _ | apply Ext.drew_left | apply Ext.drew | apply Ext.alloc)))⟩
             case measure => simp [intOf]; omega)
          | (go_ret
             have hq : neEnt xk xv yk yv xd yd xc xn yc yn = true := by assumption
             refine ⟨ret_bool ?_, Ext.trans _ _ _ HX.out (by (repeat (first | exact Ext.refl _ | apply Ext.drew_left | apply Ext.drew | apply Ext.alloc)))⟩
             symm
             apply HN3.out
             intro e
             cases e
             simp [neEnt] at hq)
      · have e : k = l.length := by omega
        subst e
        go_wp2
        go_ret
        exact ⟨ret_bool (HEQ0.out (take_same HLEN.out HT.out)).symm, HX.out⟩
  · have hlb : ((l.length : Int) != (l'.length : Int)) = true := by simp; omega
    go_wp2
    go_ret
    exact ⟨ret_bool (HNE0.out (fun e => hlen (by rw [e]))).symm, Ext.refl _⟩

def neName (a b c x y z : Int) : Bool := !decide (a = x ∧ b = y ∧ c = z)
theorem neq_name' (w : World) (a b c x y z : Int) : (binOp .neq 23 (.agg #[.int .i64 a, .int .i64 b, .int .i64 c]) (.agg #[.int .i64 x, .int .i64 y, .int .i64 z])).run Try.prog w = .ok (.bool (neName a b c x y z)) w := by
  unfold neName
  go_simp
  by_cases h1 : a = x <;> by_cases h2 : b = y <;> by_cases h3 : c = z <;> simp [*]
attribute [local go_sem ↓] neq_name'

theorem fSame_any (f t o li nu tu f' t' o' li' nu' tu' : Int) (l l' : List Prt) (sv sv' : Value) (w : World) (hs : PrtSl w sv l) (hs' : PrtSl w sv' l') :
    Calls Try.prog 29 #[.agg #[.int .i64 f, .int .i64 t, .int .i64 o, .int .i64 li, .int .i64 nu, .int .i64 tu, sv], .agg #[.int .i64 f', .int .i64 t', .int .i64 o', .int .i64 li', .int .i64 nu', .int .i64 tu', sv']] w
      fun e w' => e = .returned (.bool (sameF ⟨f, t, o, li, nu, tu, l⟩ ⟨f', t', o', li', nu', tu', l'⟩)) ∧ Ext w w' := by
  have HNE := hid_mk (show (¬ f = f' ∨ ¬ t = t' ∨ ¬ (o = o' ∧ li = li' ∧ nu = nu') ∨ ¬ tu = tu' ∨ ¬ l.length = l'.length) → sameF ⟨f, t, o, li, nu, tu, l⟩ ⟨f', t', o', li', nu', tu', l'⟩ = false from fun h => sameF_ne (fun e => by cases e; simp at h))
  obtain ⟨a, c, rfl, hlc, hl63, hcells⟩ := hs
  have HC := hid_mk hcells
  clear hcells
  obtain ⟨a', c', rfl, hlc', hl63', hcells⟩ := hs'
  have HC' := hid_mk hcells
  clear hcells
  go_enter Try.func29, Try.ntmps29
  by_cases q1 : f = f'
  · subst q1
    by_cases q2 : t = t'
    · subst q2
      by_cases q3 : o = o' ∧ li = li' ∧ nu = nu'
      · obtain ⟨rfl, rfl, rfl⟩ := q3
        have q3b : neName o li nu o li nu = false := by simp [neName]
        by_cases q4 : tu = tu'
        · subst q4
          by_cases q5 : l.length = l'.length
          · have hlb : ((l.length : Int) != (l'.length : Int)) = false := by simp; omega
            have HLEN := hid_mk q5
            have HSF := hid_mk (sameF_eq f t o li nu tu l l')
            generalize sameF ⟨f, t, o, li, nu, tu, l⟩ ⟨f, t, o, li, nu, tu, l'⟩ = res at *
            clear q5 HNE
            go_wp2
            go_loopw [46] (fun i wr => ∃ k : Nat, k ≤ l.length ∧ i = .int .i64 k ∧ l.take k = l'.take k ∧ Ext w wr ∧ wr.cell? ⟨w.heap.size + 1, 6, none⟩ = some (.slice a' l'.length c')) (fun i _ => l.length - (intOf i).toNat)
            case atStart => exact ⟨0, Nat.zero_le _, rfl, rfl, by (repeat (first | exact Ext.refl _ | apply Ext.drew_left | apply Ext.drew | apply Ext.alloc)), by go_simp⟩
            case round =>
              obtain ⟨k, hk, rfl, ht, hx, hc6⟩ := hrel
              have hszB := cell_lt hc6
              have HX := hid_mk hx
              clear hx
              have HT := hid_mk ht
              clear ht
              by_cases hlt : k < l.length
              · have hlt' : k < l'.length := by have := HLEN.out; omega
                obtain ⟨b, ob, rfl, hcl⟩ := HC.out (by omega)
                obtain ⟨pv, hA⟩ := hcl k hlt
                obtain ⟨b', ob', rfl, hcl'⟩ := HC'.out (by omega)
                obtain ⟨pv', hA'⟩ := hcl' k hlt'
                clear hcl hcl'
                replace hA := hA.ext HX.out
                replace hA' := hA'.ext HX.out
                have HNP := hid_mk (show l[k] ≠ l'[k] → res = false from fun h => HSF.out.trans (sameP_ne (fun e => h (by subst e; rfl))))
                have HMO := hid_mk (take_more hlt hlt' HT.out)
                generalize l[k] = p at *
                generalize l'[k] = q at *
                have HE := hid_mk hA.es
                have HE' := hid_mk hA'.es
                obtain ⟨kind, lo, hi, op, cnt, s0, s1, ents⟩ := p
                obtain ⟨kind', lo', hi', op', cnt', s0', s1', ents'⟩ := q
                obtain ⟨a0, a1, a2, a3, a4, a5, a6, a7, -⟩ := hA
                obtain ⟨b0, b1, b2, b3, b4, b5, b6, b7, -⟩ := hA'
                obtain ⟨ea, ec, rfl, -, -, -⟩ := HE.out
                obtain ⟨ea', ec', rfl, -, -, -⟩ := HE'.out
                dsimp only at a0 a1 a2 a3 a4 a5 a6 a7 b0 b1 b2 b3 b4 b5 b6 b7 HE HE'
                have hbl := cell_lt a0
                have hbl' := cell_lt b0
                have hk1 : (k : Int) < (l.length : Int) := by omega
                have hk2 : (k : Int) < (l'.length : Int) := by omega
                have HFL := hid_mk (show (¬ kind = kind' ∨ ¬ (lo.toList = lo'.toList ∧ hi.toList = hi'.toList ∧ op = op') ∨ ¬ (cnt = cnt' ∧ s0 = s0' ∧ s1 = s1') ∨ ¬ ents = ents') → res = false from fun h => HNP.out (fun e => by cases e; simp at h))
                have HMO2 := hid_mk (show kind = kind' → lo.toList = lo'.toList → hi.toList = hi'.toList → op = op' → cnt = cnt' → s0 = s0' → s1 = s1' → ents = ents' → l.take (k + 1) = l'.take (k + 1) from fun h1 h2 h3 h4 h5 h6 h7 h8 => HMO.out (by subst h1 h4 h5 h6 h7 h8; cases ba_ext h2; cases ba_ext h3; rfl))
                clear HNP HMO
                by_cases q1 : kind = kind'
                · by_cases q2 : lo.toList = lo'.toList ∧ hi.toList = hi'.toList ∧ op = op'
                  · have q2b : neRng lo hi lo' hi' op op' = false := by simp [neRng, q2]
                    by_cases q3 : cnt = cnt' ∧ s0 = s0' ∧ s1 = s1'
                    · have q3b : neTally cnt s0 s1 cnt' s0' s1' = false := by simp [neTally, q3]
                      have HMO3 := hid_mk (HMO2.out q1 q2.1 q2.2.1 q2.2.2 q3.1 q3.2.1 q3.2.2)
                      have HFL3 := hid_mk (show ¬ ents = ents' → res = false from fun h => HFL.out (Or.inr (Or.inr (Or.inr h))))
                      clear q2 q3 HMO2 HFL
                      have q1b : (kind != kind') = false := by simpa using q1
                      clear q1
                      go_wp2_with fail
                      refine (equalEnt_any ents ents' _ _ _ (HE.out.ext (by (repeat (first | exact Ext.refl _ | apply Ext.drew_left | apply Ext.drew | apply Ext.alloc)))) (HE'.out.ext (by (repeat (first | exact Ext.refl _ | apply Ext.drew_left | apply Ext.drew | apply Ext.alloc))))).mono ?_
                      rintro e w3 ⟨rfl, hx3⟩
                      have hc63 : w3.cell? ⟨w.heap.size + 1, 6, none⟩ = some (.slice (some ⟨b', ob', none⟩) l'.length c') := cell_ext (Ext.trans _ _ _ (by (repeat (first | exact Ext.refl _ | apply Ext.drew_left | apply Ext.drew | apply Ext.alloc))) hx3) hc6
                      have HX3 := hid_mk (show Ext w w3 from Ext.trans _ _ _ HX.out (Ext.trans _ _ _ (by (repeat (first | exact Ext.refl _ | apply Ext.drew_left | apply Ext.drew | apply Ext.alloc))) hx3))
                      clear hx3
                      by_cases q4 : ents = ents'
                      · have HMO4 := hid_mk (HMO3.out q4)
                        rw [show sameE ents ents' = true from by simp [sameE, q4]]
                        clear q4
                        go_wp2
                        go_roundw
                        case rel => exact ⟨k + 1, by omega, by go_num, HMO4.out, HX3.out, hc63⟩
                        case measure => simp [intOf]; omega
                      · have HR := hid_mk (HFL3.out q4)
                        rw [show sameE ents ents' = false from by simp [sameE, q4]]
                        clear q4
                        go_wp2
                        go_ret
                        exact ⟨ret_bool HR.out.symm, HX3.out⟩
                    · have q3b : neTally cnt s0 s1 cnt' s0' s1' = true := by unfold neTally; rw [decide_eq_false q3]; rfl
                      have HR := hid_mk (HFL.out (Or.inr (Or.inr (Or.inl q3))))
                      have q1b : (kind != kind') = false := by simpa using q1
                      clear q1 q2 q3
                      go_wp2
                      go_ret
                      exact ⟨ret_bool HR.out.symm, Ext.trans _ _ _ HX.out (by (repeat (first | exact Ext.refl _ | apply Ext.drew_left | apply Ext.drew | apply Ext.alloc)))⟩
                  · have q2b : neRng lo hi lo' hi' op op' = true := by unfold neRng; rw [decide_eq_false q2]; rfl
                    have HR := hid_mk (HFL.out (Or.inr (Or.inl q2)))
                    have q1b : (kind != kind') = false := by simpa using q1
                    clear q1 q2
                    go_wp2
                    go_ret
                    exact ⟨ret_bool HR.out.symm, Ext.trans _ _ _ HX.out (by (repeat (first | exact Ext.refl _ | apply Ext.drew_left | apply Ext.drew | apply Ext.alloc)))⟩
                · have q1b : (kind != kind') = true := by simpa using q1
                  have HR := hid_mk (HFL.out (Or.inl q1))
                  clear q1
                  go_wp2
                  go_ret
                  exact ⟨ret_bool HR.out.symm, Ext.trans _ _ _ HX.out (by (repeat (first | exact Ext.refl _ | apply Ext.drew_left | apply Ext.drew | apply Ext.alloc)))⟩
              · have e : k = l.length := by omega
                subst e
                go_wp2
                go_ret
                exact ⟨ret_bool (HSF.out.trans (sameP_eq (take_same HLEN.out HT.out))).symm, HX.out⟩
          · have hlb : ((l.length : Int) != (l'.length : Int)) = true := by simp; omega
            have HR := hid_mk (HNE.out (Or.inr (Or.inr (Or.inr (Or.inr q5)))))
            clear q5
            go_wp2
            go_ret
            exact ⟨ret_bool HR.out.symm, by (repeat (first | exact Ext.refl _ | apply Ext.drew_left | apply Ext.drew | apply Ext.alloc))⟩
        · have q4b : (tu != tu') = true := by simpa using q4
          have HR := hid_mk (HNE.out (Or.inr (Or.inr (Or.inr (Or.inl q4)))))
          clear q4
          go_wp2
          go_ret
          exact ⟨ret_bool HR.out.symm, by (repeat (first | exact Ext.refl _ | apply Ext.drew_left | apply Ext.drew | apply Ext.alloc))⟩
      · have q3b : neName o li nu o' li' nu' = true := by unfold neName; rw [decide_eq_false q3]; rfl
        have HR := hid_mk (HNE.out (Or.inr (Or.inr (Or.inl q3))))
        clear q3
        go_wp2
        go_ret
        exact ⟨ret_bool HR.out.symm, by (repeat (first | exact Ext.refl _ | apply Ext.drew_left | apply Ext.drew | apply Ext.alloc))⟩
    · have q2b : (t != t') = true := by simpa using q2
      have HR := hid_mk (HNE.out (Or.inr (Or.inl q2)))
      clear q2
      go_wp2
      go_ret
      exact ⟨ret_bool HR.out.symm, by (repeat (first | exact Ext.refl _ | apply Ext.drew_left | apply Ext.drew | apply Ext.alloc))⟩
  · have q1b : (f != f') = true := by simpa using q1
    have HR := hid_mk (HNE.out (Or.inl q1))
    clear q1
    go_wp2
    go_ret
    exact ⟨ret_bool HR.out.symm, by (repeat (first | exact Ext.refl _ | apply Ext.drew_left | apply Ext.drew | apply Ext.alloc))⟩
end Go.Proofs.Ytgglbohcnlcagaa
