/- What a tree in memory answers to Get, Rank, At and Len. (One of three instances.) -/
import Derived.Test.YtgglbohcnlcagaaTE1
import Derived.Test.YtgglbohcnlcagaaTQ
import Derived.WalkMore
import Derived.Deep.LoopGhost
namespace Go.Proofs.Ytgglbohcnlcagaa
open Go.RowKit
set_option maxHeartbeats 2000000
set_option maxRecDepth 100000
set_option linter.unusedSimpArgs false
set_option linter.unusedVariables false
theorem en_TGet1 : Enters Try.prog 42 := ⟨_, Try.func42, by kernel_rfl, rfl⟩
theorem en_TAt1 : Enters Try.prog 41 := ⟨_, Try.func41, by kernel_rfl, rfl⟩
theorem en_TRank1 : Enters Try.prog 40 := ⟨_, Try.func40, by kernel_rfl, rfl⟩

/-- A node's height, as it lies in memory. -/
def hiOf1 (v : Value) (w : World) : Nat := match v with
  | .pointer (some a) => (match w.cell? ⟨a.block, 9, none⟩ with | some x => (intOf x).toNat | none => 0)
  | _ => 0
theorem hiOf1_eq {Sp : Option Nat} {J : S1 → S1 → S1} {z : S1} {w : World} {pv : Value} {T : T1} (h : IsTree1 Sp J z w pv T) : hiOf1 pv w = T.high := by
  cases T with
  | nil => cases h; rfl
  | node l k v s r =>
    obtain ⟨b, pl, pr, rfl, -, h3, -, -⟩ := h
    show (match w.cell? ⟨b, 9, none⟩ with | some x => (intOf x).toNat | none => 0) = _
    rw [h3.c9]
    simp [intOf]
def zeroV1 : Value := .int .i64 0
def zV1 : V1 := 0
theorem get1_any {Sp : Option Nat} {J : S1 → S1 → S1} {z : S1} {w : World} {tb : Nat} {zz : S1} {jv pv : Value} {T : T1} (k : ByteArray) (ht : TreeAt1 w tb zz jv pv) (h : IsTree1 Sp J z w pv T) :
    Calls Try.prog 42 #[.pointer (some ⟨tb, 0, none⟩), .string k] w fun e w' => e = .returned (.tuple #[encV1 ((T.get k).getD zV1), .bool (T.get k).isSome]) ∧ w = w' := by
  obtain ⟨t0, t1, t2, t3⟩ := ht
  have H := hid_mk h
  clear h
  obtain ⟨res, hres⟩ : ∃ res, res = T.get k := ⟨_, rfl⟩
  rw [← hres]
  have HR := hid_mk hres
  clear hres
  go_enter Try.func42, Try.ntmps42
  go_wp2
  go_step3
  go_wp2
  go_step3
  go_wp2
  go_loop [6] (fun i => ∃ T' : T1, IsTree1 Sp J z w i T' ∧ T'.get k = res) (fun i => hiOf1 i w)
  case atStart => exact ⟨T, H.out, HR.out.symm⟩
  case round =>
    obtain ⟨T', hT, hg⟩ := hrel
    cases T' with
    | nil =>
      cases hT
      have hg' : res = none := hg.symm
      subst hg'
      clear hg
      go_wp2
      refine bodyPost_ret (v := .tuple #[zeroV1, .bool false]) (by unfold results; rw [Try.results42]; go_simp; rfl) rfl ⟨rfl, rfl⟩
    | node l k' v' s' r =>
      have HM := hid_mk (hiOf1_eq hT)
      obtain ⟨b, p1, p2, rfl, -, hN, h1, h2⟩ := hT
      obtain ⟨c0, c1, c2, c3, c4, c5, c6, c7, c8, c9⟩ := hN
      have H1 := hid_mk h1
      have H2 := hid_mk h2
      have HG := hid_mk hg
      clear h1 h2 hg
      by_cases q1 : Op.bytesLess k.toList k'.toList = true
      · go_wp2
        go_round
        case rel => exact ⟨l, H1.out, by have := HG.out; rwa [Tr.get, if_pos q1] at this⟩
        case measure => rw [hiOf1_eq H1.out, HM.out]; simp only [Tr.high]; omega
      · have q1' : Op.bytesLess k.toList k'.toList = false := by simpa using q1
        have Q1 := hid_mk q1
        clear q1
        by_cases q2 : Op.bytesLess k'.toList k.toList = true
        · have q3 : (k.toList == k'.toList) = false := by have := bl_ne q2; simpa using fun h => this h.symm
          go_wp2
          go_round
          case rel => exact ⟨r, H2.out, by have := HG.out; rwa [Tr.get, if_neg Q1.out, if_pos q2] at this⟩
          case measure => rw [hiOf1_eq H2.out, HM.out]; simp only [Tr.high]; omega
        · have q2' : Op.bytesLess k'.toList k.toList = false := by simpa using q2
          have q3 : (k.toList == k'.toList) = true := by have := bl_eq q1' q2'; simpa using this
          have hg' : res = some v' := by have := HG.out; rw [Tr.get, if_neg Q1.out, if_neg q2] at this; exact this.symm
          subst hg'
          clear HG q2
          go_wp2
          refine bodyPost_ret (v := .tuple #[encV1 v', .bool true]) (by unfold results; rw [Try.results42]; go_simp) rfl ⟨rfl, rfl⟩
theorem rank1_any {Sp : Option Nat} {J : S1 → S1 → S1} {z : S1} {w : World} {tb : Nat} {zz : S1} {jv pv : Value} {T : T1} (k : ByteArray) (ht : TreeAt1 w tb zz jv pv) (h : IsTree1 Sp J z w pv T) (hsz : T.size ≤ 4611686018427387904) :
    Calls Try.prog 40 #[.pointer (some ⟨tb, 0, none⟩), .string k] w fun e w' => e = .returned (.int .i64 ((T.rank k : Nat) : Int)) ∧ w = w' := by
  obtain ⟨t0, t1, t2, t3⟩ := ht
  have H := hid_mk h
  clear h
  obtain ⟨res, hres⟩ : ∃ res, res = T.rank k := ⟨_, rfl⟩
  rw [← hres]
  have HR := hid_mk hres
  have HS := hid_mk hsz
  clear hres hsz
  go_enter Try.func40, Try.ntmps40
  go_wp2
  go_loop [5, 6] (fun c i => ∃ (T' : T1) (m : Nat), c = .int .i64 (m : Int) ∧ IsTree1 Sp J z w i T' ∧ m + T'.rank k = res ∧ m + T'.size ≤ 4611686018427387904) (fun _ i => hiOf1 i w)
  case atStart => exact ⟨T, 0, rfl, H.out, by have := HR.out; omega, by have := HS.out; omega⟩
  case round =>
    obtain ⟨T', m, rfl, hT, hg, hb⟩ := hrel
    cases T' with
    | nil =>
      cases hT
      obtain rfl : m = res := by simpa [Tr.rank] using hg
      clear hg
      go_wp2
      go_ret
      exact ⟨rfl, rfl⟩
    | node l k' v' s' r =>
      have HM := hid_mk (hiOf1_eq hT)
      obtain ⟨b, p1, p2, rfl, -, hN, h1, h2⟩ := hT
      obtain ⟨c0, c1, c2, c3, c4, c5, c6, c7, c8, c9⟩ := hN
      have H1 := hid_mk h1
      have H2 := hid_mk h2
      have HG := hid_mk hg
      have hb' : m + (l.size + 1 + r.size) ≤ 4611686018427387904 := hb
      have e1 : IntKind.i64.wrap ((l.size : Int) + 1) = (l.size : Int) + 1 := by rw [IntKind.wrap_i64]; omega
      have e2 : IntKind.i64.wrap ((m : Int) + ((l.size : Int) + 1)) = ((m + (l.size + 1) : Nat) : Int) := by rw [IntKind.wrap_i64]; omega
      have HB := hid_mk hb'
      clear h1 h2 hg hb hb'
      by_cases q1 : Op.bytesLess k'.toList k.toList = true
      · go_wp2_with fail
        refine (many1_any H1.out).mono ?_
        rintro e w1 ⟨rfl, rfl⟩
        go_wp2
        go_round
        case rel => exact ⟨r, m + (l.size + 1), by go_num, H2.out, by have := HG.out; rw [Tr.rank, if_pos q1] at this; omega, by have := HB.out; omega⟩
        case measure => rw [hiOf1_eq H2.out, HM.out]; simp only [Tr.high]; omega
      · have q1' : Op.bytesLess k'.toList k.toList = false := by simpa using q1
        have Q1 := hid_mk q1
        clear q1
        go_wp2
        go_round
        case rel => exact ⟨l, m, rfl, H1.out, by have := HG.out; rwa [Tr.rank, if_neg Q1.out] at this, by have := HB.out; omega⟩
        case measure => rw [hiOf1_eq H1.out, HM.out]; simp only [Tr.high]; omega
theorem len1_any {Sp : Option Nat} {J : S1 → S1 → S1} {z : S1} {w : World} {tb : Nat} {zz : S1} {jv pv : Value} {T : T1} (ht : TreeAt1 w tb zz jv pv) (h : IsTree1 Sp J z w pv T) :
    Calls Try.prog 35 #[.pointer (some ⟨tb, 0, none⟩)] w fun e w' => e = .returned (.int .i64 ((T.size : Nat) : Int)) ∧ w = w' := by
  obtain ⟨t0, t1, t2, t3⟩ := ht
  have H := hid_mk h
  clear h
  go_enter Try.func35, Try.ntmps35
  go_wp2_with fail
  refine (many1_any H.out).mono ?_
  rintro e w1 ⟨rfl, rfl⟩
  go_wp2
  go_ret
  exact ⟨rfl, rfl⟩
/-- What At hands back. -/
def atV1 (o : Option (ByteArray × V1)) : Value := .tuple #[.string ((o.map (·.1)).getD ⟨#[]⟩), encV1 ((o.map (·.2)).getD zV1), .bool o.isSome]
theorem at1_any {Sp : Option Nat} {J : S1 → S1 → S1} {z : S1} {w : World} {tb : Nat} {zz : S1} {jv pv : Value} {T : T1} (i : Int) (hi : -9223372036854775808 ≤ i ∧ i ≤ 9223372036854775807) (ht : TreeAt1 w tb zz jv pv) (h : IsTree1 Sp J z w pv T) (hsz : T.size ≤ 4611686018427387904) :
    Calls Try.prog 41 #[.pointer (some ⟨tb, 0, none⟩), .int .i64 i] w fun e w' => e = .returned (atV1 (T.at_ i)) ∧ Ext w w' := by
  obtain ⟨t0, t1, t2, t3⟩ := ht
  have H := hid_mk h
  clear h
  obtain ⟨res, hres⟩ : ∃ res, res = T.at_ i := ⟨_, rfl⟩
  rw [← hres]
  have HR := hid_mk hres
  have HS := hid_mk hsz
  have HI := hid_mk hi
  clear hres hsz hi
  go_enter Try.func41, Try.ntmps41
  go_wp2
  go_loop [1, 7] (fun c i => ∃ (T' : T1) (m : Int), c = .int .i64 m ∧ (-9223372036854775808 ≤ m ∧ m ≤ 9223372036854775807) ∧ IsTree1 Sp J z w i T' ∧ T'.at_ m = res ∧ T'.size ≤ 4611686018427387904) (fun _ i => hiOf1 i w)
  case atStart => exact ⟨T, i, rfl, HI.out, H.out, HR.out.symm, HS.out⟩
  case round =>
    obtain ⟨T', m, rfl, hm, hT, hg, hb⟩ := hrel
    cases T' with
    | nil =>
      cases hT
      have hg' : res = none := hg.symm
      subst hg'
      clear hg
      go_wp2
      refine bodyPost_ret (v := .tuple #[.string ⟨#[]⟩, zeroV1, .bool false]) (by unfold results; rw [Try.results41]; go_simp; rfl) rfl ⟨rfl, by (repeat (first | exact Ext.refl _ | apply Ext.drew_left | apply Ext.drew | apply Ext.alloc))⟩
    | node l k' v' s' r =>
      have HM := hid_mk (hiOf1_eq hT)
      obtain ⟨b, p1, p2, rfl, -, hN, h1, h2⟩ := hT
      obtain ⟨c0, c1, c2, c3, c4, c5, c6, c7, c8, c9⟩ := hN
      have hblt := cell_lt c0
      have H1 := hid_mk h1
      have H2 := hid_mk h2
      have hb' : l.size + 1 + r.size ≤ 4611686018427387904 := hb
      have HB := hid_mk hb'
      clear h1 h2 hb
      by_cases hneg : m < 0
      · rw [Tr.at_neg hneg] at hg
        subst hg
        clear hb'
        go_wp2
        refine bodyPost_ret (v := .tuple #[.string ⟨#[]⟩, zeroV1, .bool false]) (by unfold results; rw [Try.results41]; go_simp; rfl) rfl ⟨rfl, by (repeat (first | exact Ext.refl _ | apply Ext.drew_left | apply Ext.drew | apply Ext.alloc))⟩
      · have HNG := hid_mk hneg
        have hm0 : (0 : Int) ≤ m := by omega
        rw [Tr.at_, if_neg hneg] at hg
        have HG := hid_mk hg
        clear hg hneg
        have e1 : IntKind.i64.wrap ((l.size : Int) + 1) = (l.size : Int) + 1 := by rw [IntKind.wrap_i64]; omega
        go_wp2_with fail
        refine (many1_any H1.out).mono ?_
        rintro e w1 ⟨rfl, rfl⟩
        by_cases q1 : m < (l.size : Int)
        · go_wp2
          go_round
          case rel => exact ⟨l, m, rfl, hm, H1.out, by have := HG.out; rwa [if_pos q1] at this, by have := HB.out; omega⟩
          case measure => rw [hiOf1_eq H1.out, HM.out]; simp only [Tr.high]; omega
        · by_cases q2 : (l.size : Int) < m
          · have e2 : IntKind.i64.wrap (m - ((l.size : Int) + 1)) = m - ((l.size : Int) + 1) := by rw [IntKind.wrap_i64]; omega
            go_wp2
            go_round
            case rel => exact ⟨r, m - ((l.size : Int) + 1), rfl, by omega, H2.out, by have := HG.out; rwa [if_neg (by omega), if_pos q2] at this, by have := HB.out; omega⟩
            case measure => rw [hiOf1_eq H2.out, HM.out]; simp only [Tr.high]; omega
          · have hg' : res = some (k', v') := by have := HG.out; rw [if_neg q1, if_neg q2] at this; exact this.symm
            subst hg'
            obtain rfl : m = (l.size : Int) := by omega
            clear HG q1 q2 e1
            go_wp2
            refine wp_region_held_below (fun _ => true) (.quiet 0 (.quiet 1 (.quiet 2 (.quiet 3 (.quiet 4 (.quiet 5 (.quiet 6 (.quiet 7 (.quiet 8 (.quiet 9 (.quiet 10 .done))))))))))) (by kernel_rfl) (by kernel_rfl) (by intro c a w d v h; cases d <;> exact h) (fun ops HO => ?_)
            refine plan_read _ (hi_of HO rfl) rfl (fun w' hE => by (repeat (with_reducible replace hE := Ext.unD hE)); have hcE := hE.hc; clear hE; go_simp; rfl) ?_
            simp only [Act.put, List.setIfInBounds_toArray, List.set_cons_succ, List.set_cons_zero]
            refine plan_read _ (hi_of HO rfl) rfl (fun w' hE => by (repeat (with_reducible replace hE := Ext.unD hE)); have hcE := hE.hc; clear hE; go_simp; rfl) ?_
            simp only [Act.put, List.setIfInBounds_toArray, List.set_cons_succ, List.set_cons_zero]
            refine plan_read _ (hi_of HO rfl) rfl (fun w' hE => by (repeat (with_reducible replace hE := Ext.unD hE)); have hcE := hE.hc; clear hE; go_simp; rfl) ?_
            simp only [Act.put, List.setIfInBounds_toArray, List.set_cons_succ, List.set_cons_zero]
            refine plan_read _ (hi_of HO rfl) rfl (fun w' hE => by (repeat (with_reducible replace hE := Ext.unD hE)); have hcE := hE.hc; clear hE; go_simp; rfl) ?_
            simp only [Act.put, List.setIfInBounds_toArray, List.set_cons_succ, List.set_cons_zero]
            refine plan_read _ (hi_of HO rfl) rfl (fun w' hE => by (repeat (with_reducible replace hE := Ext.unD hE)); have hcE := hE.hc; clear hE; go_simp; rfl) ?_
            simp only [Act.put, List.setIfInBounds_toArray, List.set_cons_succ, List.set_cons_zero]
            refine plan_read _ (hi_of HO rfl) rfl (fun w' hE => by (repeat (with_reducible replace hE := Ext.unD hE)); have hcE := hE.hc; clear hE; go_simp; rfl) ?_
            simp only [Act.put, List.setIfInBounds_toArray, List.set_cons_succ, List.set_cons_zero]
            refine plan_read _ (hi_of HO rfl) rfl (fun w' hE => by (repeat (with_reducible replace hE := Ext.unD hE)); have hcE := hE.hc; clear hE; go_simp; rfl) ?_
            simp only [Act.put, List.setIfInBounds_toArray, List.set_cons_succ, List.set_cons_zero]
            refine plan_read _ (hi_of HO rfl) rfl (fun w' hE => by (repeat (with_reducible replace hE := Ext.unD hE)); have hcE := hE.hc; clear hE; go_simp; rfl) ?_
            simp only [Act.put, List.setIfInBounds_toArray, List.set_cons_succ, List.set_cons_zero]
            refine plan_read _ (hi_of HO rfl) rfl (fun w' hE => by (repeat (with_reducible replace hE := Ext.unD hE)); have hcE := hE.hc; clear hE; go_simp; rfl) ?_
            simp only [Act.put, List.setIfInBounds_toArray, List.set_cons_succ, List.set_cons_zero]
            refine plan_read _ (hi_of HO rfl) rfl (fun w' hE => by (repeat (with_reducible replace hE := Ext.unD hE)); have hcE := hE.hc; clear hE; go_simp; rfl) ?_
            simp only [Act.put, List.setIfInBounds_toArray, List.set_cons_succ, List.set_cons_zero]
            refine plan_read _ (hi_of HO rfl) rfl (fun w' hE => by (repeat (with_reducible replace hE := Ext.unD hE)); have hcE := hE.hc; clear hE; go_simp; rfl) ?_
            simp only [Act.put, List.setIfInBounds_toArray, List.set_cons_succ, List.set_cons_zero]
            refine plan_done ?fin101
            go_wp2
            refine bodyPost_ret (v := .tuple #[.string k', encV1 v', .bool true]) (by unfold results; rw [Try.results41]; go_simp) rfl ⟨rfl, by (repeat (first | exact Ext.refl _ | apply Ext.drew_left | apply Ext.drew | apply Ext.alloc))⟩
end Go.Proofs.Ytgglbohcnlcagaa
