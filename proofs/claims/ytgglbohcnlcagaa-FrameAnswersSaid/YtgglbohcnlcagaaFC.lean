/- Two lists of parts: are they the same? -/
import Derived.Test.YtgglbohcnlcagaaF4
namespace Go.Proofs.Ytgglbohcnlcagaa
open Go.RowKit
set_option maxHeartbeats 8000000
set_option maxRecDepth 100000
set_option linter.unusedSimpArgs false
set_option linter.unusedVariables false
theorem en_SameParts : Enters Try.prog 81 := ⟨_, Try.func81, by kernel_rfl, rfl⟩
theorem en_rSame : Enters Try.prog 30 := ⟨_, Try.func30, by kernel_rfl, rfl⟩

def neRng (a b x y : ByteArray) (c z : Bool) : Bool := !decide (a.toList = x.toList ∧ b.toList = y.toList ∧ c = z)
def neTally (a b c x y z : Int) : Bool := !decide (a = x ∧ b = y ∧ c = z)
def neEnt (a b x y : ByteArray) (c z : Bool) (n m n' m' : Int) : Bool := !decide (a.toList = x.toList ∧ n = n' ∧ m = m' ∧ b.toList = y.toList ∧ c = z)
theorem neq_rng' (w : World) (a b x y : ByteArray) (c z : Bool) : (binOp .neq 33 (.agg #[.string a, .string b, .bool c]) (.agg #[.string x, .string y, .bool z])).run Try.prog w = .ok (.bool (neRng a b x y c z)) w := by
  unfold neRng
  go_simp
  by_cases h1 : a.toList = x.toList <;> by_cases h2 : b.toList = y.toList <;> by_cases h3 : c = z <;> simp [*]
theorem neq_tally' (w : World) (a b c x y z : Int) : (binOp .neq 38 (.agg #[.int .i64 a, .int .u64 b, .int .u64 c]) (.agg #[.int .i64 x, .int .u64 y, .int .u64 z])).run Try.prog w = .ok (.bool (neTally a b c x y z)) w := neq_tally w a b c x y z
theorem neq_ent (w : World) (a b x y : ByteArray) (c z : Bool) (n m n' m' : Int) : (binOp .neq 45 (.agg #[.string a, .int .i64 n, .int .i64 m, .string b, .bool c]) (.agg #[.string x, .int .i64 n', .int .i64 m', .string y, .bool z])).run Try.prog w = .ok (.bool (neEnt a b x y c z n m n' m')) w := by
  unfold neEnt
  go_simp
  by_cases h1 : a.toList = x.toList <;> by_cases h2 : b.toList = y.toList <;> by_cases h3 : c = z <;> by_cases h4 : n = n' <;> by_cases h5 : m = m' <;> simp [*]
theorem neEnt_false {a b x y : ByteArray} {c z : Bool} {n m n' m' : Int} (h : neEnt a b x y c z n m n' m' = false) : a.toList = x.toList ∧ n = n' ∧ m = m' ∧ b.toList = y.toList ∧ c = z := by
  unfold neEnt at h; simpa using h
attribute [local go_sem ↓] neq_rng' neq_tally' neq_ent

open Classical in
noncomputable def sameP (l l' : List Prt) : Bool := decide (l = l')
theorem sameP_ne {l l' : List Prt} (h : l ≠ l') : sameP l l' = false := by simp [sameP, h]
theorem sameP_eq {l l' : List Prt} (h : l = l') : sameP l l' = true := by simp [sameP, h]
theorem take_same {α : Type} {l l' : List α} (hlen : l.length = l'.length) (h : l.take l.length = l'.take l.length) : l = l' := by
  rw [List.take_length, hlen, List.take_length] at h; exact h
theorem take_more {α : Type} {l l' : List α} {k : Nat} (hk : k < l.length) (hk' : k < l'.length) (h : l.take k = l'.take k) (e : l[k] = l'[k]) : l.take (k + 1) = l'.take (k + 1) := by
  rw [List.take_succ_eq_append_getElem hk, List.take_succ_eq_append_getElem hk', h, e]

theorem SameParts_any (l l' : List Prt) (sv sv' : Value) (w : World) (hs : PrtSl w sv l) (hs' : PrtSl w sv' l') :
    Calls Try.prog 81 #[sv, sv'] w fun e w' => e = .returned (.bool (sameP l l')) ∧ Ext w w' := by
  obtain ⟨a, c, rfl, hlc, hl63, hcells⟩ := hs
  have HC := hid_mk hcells
  clear hcells
  obtain ⟨a', c', rfl, hlc', hl63', hcells⟩ := hs'
  have HC' := hid_mk hcells
  clear hcells
  go_enter Try.func81, Try.ntmps81
  by_cases hlen : l.length = l'.length
  · have hlb : ((l.length : Int) != (l'.length : Int)) = false := by simp; omega
    have HLEN := hid_mk hlen
    clear hlen
    go_wp2
    go_loopw [5] (fun i wr => ∃ k : Nat, k ≤ l.length ∧ i = .int .i64 k ∧ l.take k = l'.take k ∧ Ext w wr) (fun i _ => l.length - (intOf i).toNat)
    case atStart => exact ⟨0, Nat.zero_le _, rfl, rfl, Ext.refl _⟩
    case round =>
      obtain ⟨k, hk, rfl, ht, hx⟩ := hrel
      obtain ⟨wo, hwo⟩ : ∃ wo, wo = wr := ⟨_, rfl⟩
      subst hwo
      have HX := hid_mk hx
      clear hx
      have HT := hid_mk ht
      clear ht
      by_cases hlt : k < l.length
      · have hlt' : k < l'.length := by have := HLEN.out; omega
        obtain ⟨b, o, rfl, hcl⟩ := HC.out (by omega)
        obtain ⟨pv, hA⟩ := hcl k hlt
        obtain ⟨b', o', rfl, hcl'⟩ := HC'.out (by omega)
        obtain ⟨pv', hA'⟩ := hcl' k hlt'
        clear hcl hcl'
        replace hA := hA.ext HX.out
        replace hA' := hA'.ext HX.out
        have HNE := hid_mk (show l[k] ≠ l'[k] → sameP l l' = false from fun h => sameP_ne (fun e => h (by subst e; rfl)))
        have HMO := hid_mk (take_more hlt hlt' HT.out)
        generalize l[k] = p at *
        generalize l'[k] = q at *
        have HE := hid_mk hA.es
        have HE' := hid_mk hA'.es
        obtain ⟨kind, lo, hi, op, cnt, s0, s1, ents⟩ := p
        obtain ⟨kind', lo', hi', op', cnt', s0', s1', ents'⟩ := q
        obtain ⟨a0, a1, a2, a3, a4, a5, a6, a7, -⟩ := hA
        obtain ⟨b0, b1, b2, b3, b4, b5, b6, b7, -⟩ := hA'
        obtain ⟨ea, ec, rfl, hec, he63, hecl⟩ := HE.out
        obtain ⟨ea', ec', rfl, hec', he63', hecl'⟩ := HE'.out
        have HEC := hid_mk hecl
        have HEC' := hid_mk hecl'
        clear hecl hecl'
        dsimp only at a0 a1 a2 a3 a4 a5 a6 a7 b0 b1 b2 b3 b4 b5 b6 b7 HEC HEC' hec hec' he63 he63'
        have hbl := cell_lt a0
        have hbl' := cell_lt b0
        have hk1 : (k : Int) < (l.length : Int) := by omega
        have hk2 : (k : Int) < (l'.length : Int) := by omega
        by_cases hfl : kind = kind' ∧ (lo.toList = lo'.toList ∧ hi.toList = hi'.toList ∧ op = op') ∧ (cnt = cnt' ∧ s0 = s0' ∧ s1 = s1') ∧ ents.length = ents'.length
        · obtain ⟨rfl, ⟨g1, g2, rfl⟩, ⟨rfl, rfl, rfl⟩, g3⟩ := hfl
          obtain rfl : lo = lo' := ba_ext g1
          obtain rfl : hi = hi' := ba_ext g2
          clear g1 g2
          have G3 := hid_mk g3
          have gr : neRng lo hi lo hi op op = false := by simp [neRng]
          have gt : neTally cnt s0 s1 cnt s0 s1 = false := by simp [neTally]
          have g3b : ((ents.length : Int) != (ents'.length : Int)) = false := by simp; omega
          clear g3
          have HNE2 := hid_mk (show ents ≠ ents' → sameP l l' = false from fun h => HNE.out (fun e => h (by cases e; rfl)))
          have HMO2 := hid_mk (show ents = ents' → l.take (k + 1) = l'.take (k + 1) from fun h => HMO.out (by rw [h]))
          go_wp2
          go_loopw [8] (fun i wi => ∃ m : Nat, m ≤ ents.length ∧ i = .int .i64 m ∧ ents.take m = ents'.take m ∧ Ext ((wo.alloc (.cells #[.int .i64 kind, .string lo, .string hi, .bool op, .int .i64 cnt, .int .u64 s0, .int .u64 s1, .slice ea ents.length ec] 41)).alloc (.cells #[.int .i64 kind, .string lo, .string hi, .bool op, .int .i64 cnt, .int .u64 s0, .int .u64 s1, .slice ea' ents'.length ec'] 41)) wi) (fun i _ => ents.length - (intOf i).toNat)
          case atStart => exact ⟨0, Nat.zero_le _, rfl, rfl, Ext.refl _⟩
          case round =>
            obtain ⟨m, hm, rfl, htm, hx3⟩ := hrel
            have HXI := hid_mk (show Ext wo wr from Ext.trans _ _ _ (by (repeat (first | exact Ext.refl _ | apply Ext.drew_left | apply Ext.drew | apply Ext.alloc))) hx3)
            have hc3 := hx3.hc; have hl3 := hx3.hl; have he3 := hx3.hle; have hn3 := hx3.hne; replace hx3 := hid_mk hx3
            have HTM := hid_mk htm
            clear htm
            by_cases hmt : m < ents.length
            · have hmt' : m < ents'.length := by have := G3.out; omega
              obtain ⟨d, u, rfl, hd⟩ := HEC.out (by omega)
              obtain ⟨d', u', rfl, hd'⟩ := HEC'.out (by omega)
              have hD := (hd m hmt).ext HXI.out
              have hD' := (hd' m hmt').ext HXI.out
              clear hd hd'
              have HN3 := hid_mk (show ents[m] ≠ ents'[m] → sameP l l' = false from fun h => HNE2.out (fun e => h (by subst e; rfl)))
              have HM3 := hid_mk (take_more hmt hmt' HTM.out)
              generalize ents[m] = x at *
              generalize ents'[m] = y at *
              obtain ⟨xk, xc, xn, xv, xd⟩ := x
              obtain ⟨yk, yc, yn, yv, yd⟩ := y
              obtain ⟨d0, d1, d2, d3, d4⟩ := hD
              obtain ⟨e0, e1, e2, e3, e4⟩ := hD'
              dsimp only at d0 d1 d2 d3 d4 e0 e1 e2 e3 e4
              have hdl := cell_lt d0
              have hel := cell_lt e0
              have hm1 : (m : Int) < (ents.length : Int) := by omega
              have hm2 : (m : Int) < (ents'.length : Int) := by omega
              go_wp2_with fail
              refine wp_region_held_below (fun _ => true) (.quiet 0 (.quiet 1 (.quiet 2 (.quiet 3 (.quiet 4 (.quiet 5 (.quiet 6 (.quiet 7 (.quiet 8 (.quiet 9 (.quiet 10 .done))))))))))) (by kernel_rfl) (by kernel_rfl) (by intro c a w d v h; cases d <;> exact h) (fun ops HO => ?_)
              refine plan_read _ (hi_of HO rfl) rfl (fun w' hE => by have hcE := (Ext.trans _ _ _ (by (repeat (first | exact hx3.out | apply Ext.drew | apply Ext.alloc))) hE).hc; (first | replace hE := Ext.unD hE | skip); have hcF := hE.hc; clear hE; go_simp; rfl) ?_
              simp only [Act.put, List.setIfInBounds_toArray, List.set_cons_succ, List.set_cons_zero]
              refine plan_read _ (hi_of HO rfl) rfl (fun w' hE => by have hcE := (Ext.trans _ _ _ (by (repeat (first | exact hx3.out | apply Ext.drew | apply Ext.alloc))) hE).hc; (first | replace hE := Ext.unD hE | skip); have hcF := hE.hc; clear hE; go_simp; rfl) ?_
              simp only [Act.put, List.setIfInBounds_toArray, List.set_cons_succ, List.set_cons_zero]
              refine plan_read _ (hi_of HO rfl) rfl (fun w' hE => by have hcE := (Ext.trans _ _ _ (by (repeat (first | exact hx3.out | apply Ext.drew | apply Ext.alloc))) hE).hc; (first | replace hE := Ext.unD hE | skip); have hcF := hE.hc; clear hE; go_simp; rfl) ?_
              simp only [Act.put, List.setIfInBounds_toArray, List.set_cons_succ, List.set_cons_zero]
              refine plan_read _ (hi_of HO rfl) rfl (fun w' hE => by have hcE := (Ext.trans _ _ _ (by (repeat (first | exact hx3.out | apply Ext.drew | apply Ext.alloc))) hE).hc; (first | replace hE := Ext.unD hE | skip); have hcF := hE.hc; clear hE; go_simp; rfl) ?_
              simp only [Act.put, List.setIfInBounds_toArray, List.set_cons_succ, List.set_cons_zero]
              refine plan_read _ (hi_of HO rfl) rfl (fun w' hE => by have hcE := (Ext.trans _ _ _ (by (repeat (first | exact hx3.out | apply Ext.drew | apply Ext.alloc))) hE).hc; (first | replace hE := Ext.unD hE | skip); have hcF := hE.hc; clear hE; go_simp; rfl) ?_
              simp only [Act.put, List.setIfInBounds_toArray, List.set_cons_succ, List.set_cons_zero]
              refine plan_read _ (hi_of HO rfl) rfl (fun w' hE => by have hcE := (Ext.trans _ _ _ (by (repeat (first | exact hx3.out | apply Ext.drew | apply Ext.alloc))) hE).hc; (first | replace hE := Ext.unD hE | skip); have hcF := hE.hc; clear hE; go_simp; rfl) ?_
              simp only [Act.put, List.setIfInBounds_toArray, List.set_cons_succ, List.set_cons_zero]
              refine plan_read _ (hi_of HO rfl) rfl (fun w' hE => by have hcE := (Ext.trans _ _ _ (by (repeat (first | exact hx3.out | apply Ext.drew | apply Ext.alloc))) hE).hc; (first | replace hE := Ext.unD hE | skip); have hcF := hE.hc; clear hE; go_simp; rfl) ?_
              simp only [Act.put, List.setIfInBounds_toArray, List.set_cons_succ, List.set_cons_zero]
              refine plan_read _ (hi_of HO rfl) rfl (fun w' hE => by have hcE := (Ext.trans _ _ _ (by (repeat (first | exact hx3.out | apply Ext.drew | apply Ext.alloc))) hE).hc; (first | replace hE := Ext.unD hE | skip); have hcF := hE.hc; clear hE; go_simp; rfl) ?_
              simp only [Act.put, List.setIfInBounds_toArray, List.set_cons_succ, List.set_cons_zero]
              refine plan_read _ (hi_of HO rfl) rfl (fun w' hE => by have hcE := (Ext.trans _ _ _ (by (repeat (first | exact hx3.out | apply Ext.drew | apply Ext.alloc))) hE).hc; (first | replace hE := Ext.unD hE | skip); have hcF := hE.hc; clear hE; go_simp; rfl) ?_
              simp only [Act.put, List.setIfInBounds_toArray, List.set_cons_succ, List.set_cons_zero]
              refine plan_read _ (hi_of HO rfl) rfl (fun w' hE => by have hcE := (Ext.trans _ _ _ (by (repeat (first | exact hx3.out | apply Ext.drew | apply Ext.alloc))) hE).hc; (first | replace hE := Ext.unD hE | skip); have hcF := hE.hc; clear hE; go_simp; rfl) ?_
              simp only [Act.put, List.setIfInBounds_toArray, List.set_cons_succ, List.set_cons_zero]
              refine plan_read _ (hi_of HO rfl) rfl (fun w' hE => by have hcE := (Ext.trans _ _ _ (by (repeat (first | exact hx3.out | apply Ext.drew | apply Ext.alloc))) hE).hc; (first | replace hE := Ext.unD hE | skip); have hcF := hE.hc; clear hE; go_simp; rfl) ?_
              simp only [Act.put, List.setIfInBounds_toArray, List.set_cons_succ, List.set_cons_zero]
              refine plan_done ?fin101
              go_wp2
              all_goals first
                | (go_roundw
                   case rel =>
                     have hq : neEnt xk xv yk yv xd yd xc xn yc yn = false := by assumption
                     obtain ⟨g1, rfl, rfl, g2, rfl⟩ := neEnt_false hq
                     obtain rfl : xk = yk := ba_ext g1
                     obtain rfl : xv = yv := ba_ext g2
                     exact ⟨m + 1, by omega, by go_num, HM3.out rfl, Ext.trans _ _ _ hx3.out (by (repeat (first | exact Ext.refl _ | apply Ext.drew_left | apply Ext.drew | apply Ext.alloc)))⟩
                   case measure => simp [intOf]; omega)
                | (go_ret
                   have hq : neEnt xk xv yk yv xd yd xc xn yc yn = true := by assumption
                   refine ⟨ret_bool ?_, Ext.trans _ _ _ HX.out (Ext.trans _ _ _ HXI.out (by (repeat (first | exact Ext.refl _ | apply Ext.drew_left | apply Ext.drew | apply Ext.alloc))))⟩
                   symm
                   apply HN3.out
                   intro e
                   cases e
                   simp [neEnt] at hq)
            · have e : m = ents.length := by omega
              subst e
              go_wp2
              go_roundw
              case rel => exact ⟨k + 1, by omega, by go_num, HMO2.out (take_same G3.out HTM.out), Ext.trans _ _ _ HX.out HXI.out⟩
              case measure => simp [intOf]; omega
        · have HFL := hid_mk (show (¬ kind = kind' ∨ ¬ (lo.toList = lo'.toList ∧ hi.toList = hi'.toList ∧ op = op') ∨ ¬ (cnt = cnt' ∧ s0 = s0' ∧ s1 = s1') ∨ ¬ ents.length = ents'.length) → sameP l l' = false from fun h => HNE.out (fun e => by cases e; simp at h))
          by_cases q1 : kind = kind'
          · subst q1
            by_cases q2 : lo.toList = lo'.toList ∧ hi.toList = hi'.toList ∧ op = op'
            · have q2b : neRng lo hi lo' hi' op op' = false := by simp [neRng, q2]
              by_cases q3 : cnt = cnt' ∧ s0 = s0' ∧ s1 = s1'
              · have q3b : neTally cnt s0 s1 cnt' s0' s1' = false := by simp [neTally, q3]
                have q4 : ¬ ents.length = ents'.length := fun h => hfl ⟨rfl, q2, q3, h⟩
                have q4b : ((ents.length : Int) != (ents'.length : Int)) = true := by simp; omega
                have HR := hid_mk (HFL.out (Or.inr (Or.inr (Or.inr q4))))
                clear q2 q3 hfl
                go_wp2
                go_ret
                exact ⟨ret_bool HR.out.symm, Ext.trans _ _ _ HX.out (by (repeat (first | exact Ext.refl _ | apply Ext.drew_left | apply Ext.drew | apply Ext.alloc)))⟩
              · have q3b : neTally cnt s0 s1 cnt' s0' s1' = true := by unfold neTally; rw [decide_eq_false q3]; rfl
                have HR := hid_mk (HFL.out (Or.inr (Or.inr (Or.inl q3))))
                clear q2 q3 hfl
                go_wp2
                go_ret
                exact ⟨ret_bool HR.out.symm, Ext.trans _ _ _ HX.out (by (repeat (first | exact Ext.refl _ | apply Ext.drew_left | apply Ext.drew | apply Ext.alloc)))⟩
            · have q2b : neRng lo hi lo' hi' op op' = true := by unfold neRng; rw [decide_eq_false q2]; rfl
              have HR := hid_mk (HFL.out (Or.inr (Or.inl q2)))
              clear q2 hfl
              go_wp2
              go_ret
              exact ⟨ret_bool HR.out.symm, Ext.trans _ _ _ HX.out (by (repeat (first | exact Ext.refl _ | apply Ext.drew_left | apply Ext.drew | apply Ext.alloc)))⟩
          · have q1b : (kind != kind') = true := by simpa using q1
            have HR := hid_mk (HFL.out (Or.inl q1))
            clear q1 hfl
            go_wp2
            go_ret
            exact ⟨ret_bool HR.out.symm, Ext.trans _ _ _ HX.out (by (repeat (first | exact Ext.refl _ | apply Ext.drew_left | apply Ext.drew | apply Ext.alloc)))⟩
      · have e : k = l.length := by omega
        subst e
        go_wp2
        go_ret
        exact ⟨ret_bool (sameP_eq (take_same HLEN.out HT.out)).symm, HX.out⟩
  · have hlb : ((l.length : Int) != (l'.length : Int)) = true := by simp; omega
    go_wp2
    go_ret
    exact ⟨ret_bool (sameP_ne (fun e => hlen (by rw [e]))).symm, Ext.refl _⟩
end Go.Proofs.Ytgglbohcnlcagaa
