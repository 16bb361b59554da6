/- Timers: an alarm is taken out from among the others (slices.Delete, as the library has it). -/
import Derived.Test.YtiimoaplhhnklaaSC
namespace Go.Proofs.Ytiimoaplhhnklaa
open Go.RowKit
set_option maxHeartbeats 4000000
set_option maxRecDepth 100000
set_option linter.unusedSimpArgs false
set_option linter.unusedVariables false
attribute [-go_sem] Builtin.append_

theorem run_clear_one {P : Program} (w : World) (t e ty : TypeId) (z : Value) (ht : P.underlying t = some (.slice e)) (hv : ∀ w, (zeroValue e).run P w = .ok z w) (zs : List Value) (hz : (Builtin.zeroCells z.cells 1).toList = zs) (h1 : ∀ u ∈ zs, u.oneCell' = true) (g o c : Nat)
    (cur : Array Value) (te : TypeId) (hg : w.heap[g]? = some (.cells cur te (0, 0))) (hfit : o + zs.length ≤ cur.size) :
    (Builtin.clear_ #[t] ty #[.slice (some ⟨g, o, none⟩) 1 c]).run P w = .ok (.tuple #[]) (w.setRow g (cur.toList.take o ++ zs ++ cur.toList.drop (o + zs.length)).toArray) := by
  have hst := run_storeCells_at P g o te zs 0 cur w hg (by simpa using hfit) h1
  simp only [Nat.add_zero] at hst
  simp [Builtin.clear_, run_underlying ht, hv, hz, hst]
theorem del_flat (l : List Al) {i : Nat} : (l.eraseIdx i).flatMap cA = (l.flatMap cA).take (i * 4) ++ (l.flatMap cA).drop ((i + 1) * 4) := by
  rw [List.eraseIdx_eq_take_drop_succ, List.flatMap_append, flatA_take, flatA_drop]
theorem del_list {C XS : List Value} {p m : Nat} (hX : C.take m = XS) (hpm : p + 4 ≤ m) (hC : m ≤ C.length) :
    let C1 := C.take p ++ XS.drop (p + 4) ++ C.drop (p + (XS.drop (p + 4)).length)
    C1.length = C.length ∧ C1.take (m - 4) = XS.take p ++ XS.drop (p + 4) := by
  subst hX
  intro C1
  have l1 : ((C.take m).drop (p + 4)).length = m - (p + 4) := by rw [List.length_drop, List.length_take]; omega
  constructor
  · simp only [C1, List.length_append, List.length_take, List.length_drop]
    omega
  · simp only [C1]
    rw [List.take_append_of_le_length (by simp only [List.length_append, List.length_take, List.length_drop]; omega), List.take_of_length_le (by simp only [List.length_append, List.length_take, List.length_drop]; omega), List.take_take, Nat.min_eq_left (by omega)]
def DelPost (w : World) (B : Nat) (v : Value) (l : List Al) (i : Nat) (e : Ending) (w' : World) : Prop :=
  ∃ v', e = .returned v' ∧ OwnA w' B 106 v' (l.eraseIdx i) ∧ w.grownBy w' v.ownBlock ∧ v'.ownBlock = v.ownBlock
theorem al_zero : ∀ w, (zeroValue 106).run Try.prog w = .ok (.agg #[.int .i64 0, .int .i64 0, .int .i64 0, .int .i64 0]) w := fun w => by first | exact Try.zeroValue106 w | kernel_rfl
theorem delete_any {w : World} {B i : Nat} {v : Value} {l : List Al} (hown : OwnA w B 106 v l) (hi : i < l.length) (hl : l.length ≤ 1000000000000) :
    Calls Try.prog 50 #[v, .int .i64 (i : Int), .int .i64 ((i : Int) + 1)] w (DelPost w B v l i) := by
  rcases hown.2 with ⟨e, h0⟩ | ⟨g, cap, cur, rfl, hBg, hg, hnc, hc63, hcs, hct⟩
  · omega
  obtain ⟨i0, z, hinf, hs, hby, hz, hcc⟩ := al_info
  obtain ⟨n, hn⟩ : ∃ n, l.length = n := ⟨_, rfl⟩
  have HN := hid_mk hn
  rw [hn] at hi hl hct hown hnc ⊢
  obtain ⟨XS, hXS⟩ : ∃ XS, l.flatMap cA = XS := ⟨_, rfl⟩
  have hXl : XS.length = n * 4 := by rw [← hXS, flatA_len, HN.out]
  have hX1 : ∀ u ∈ XS, u.oneCell' = true := by rw [← hXS]; exact cA_one l
  rw [hXS] at hct
  have hXd : (XS.drop ((i + 1) * 4)).length = (n - (i + 1)) * 4 := by rw [List.length_drop, hXl]; omega
  have hXc : ∀ j u, XS[j]? = some u → w.drew.cell? ⟨g, j, none⟩ = some u := fun j u hj => by
    have hg' : w.drew.heap[g]? = some (.cells cur 106 (0, 0)) := hg
    have : cur[j]? = some u := by
      rw [← hct, List.getElem?_take] at hj
      split at hj
      · rw [← Array.getElem?_toList]; exact hj
      · cases hj
    simp [World.cell?, hg', this]
  obtain ⟨src, hsrc⟩ : ∃ src, (if cap = i + 1 then (0 : Nat) else (i + 1) * 4) = src := ⟨_, rfl⟩
  have hrun1 : ∀ ty, (Builtin.append_ #[102, 102] ty #[.slice (some ⟨g, 0, none⟩) i cap, .slice (some ⟨g, src, none⟩) (n - (i + 1)) (cap - (i + 1))]).run Try.prog w.drew = _ := fun ty =>
    run_append_room (P := Try.prog) w.drew 102 ty 106 i0 Try.underlying102 hinf g i cap cur hg ⟨g, src, none⟩ (n - (i + 1)) (cap - (i + 1)) (XS.drop ((i + 1) * 4)) (by rw [hs]; exact hXd)
      (fun j u hj => by
        rw [radd_flat]
        rw [List.getElem?_drop] at hj
        have hlt : (i + 1) * 4 + j < n * 4 := by rw [← hXl]; exact (List.getElem?_eq_some_iff.1 hj).1
        rw [← hsrc, if_neg (by omega)]
        exact hXc _ _ hj) (fun u hu => hX1 u (List.mem_of_mem_drop hu)) (by omega) (by rw [hs, hXd, hcs]; omega)
  have hdl := del_list (p := i * 4) hct (by omega) (by rw [Array.length_toList]; omega)
  rw [show i * 4 + 4 = (i + 1) * 4 by omega] at hdl
  simp only [hs] at hrun1
  obtain ⟨C1, hC1⟩ : ∃ C1, cur.toList.take (i * 4) ++ XS.drop ((i + 1) * 4) ++ cur.toList.drop (i * 4 + (XS.drop ((i + 1) * 4)).length) = C1 := ⟨_, rfl⟩
  rw [hC1] at hrun1
  simp only [hC1] at hdl
  obtain ⟨hl1, hl3⟩ := hdl
  have hg1 : (w.drew.setRow g C1.toArray).heap[g]? = some (.cells C1.toArray 106 (0, 0)) := setRow_heap w.drew g cur C1.toArray 106 _ hg
  have hrun2 : ∀ ty, (Builtin.clear_ #[102] ty #[.slice (some ⟨g, (n - 1) * 4, none⟩) 1 (cap - (n - 1))]).run Try.prog (w.drew.setRow g C1.toArray) = _ := fun ty =>
    run_clear_one (w.drew.setRow g C1.toArray) 102 106 ty _ Try.underlying102 al_zero [.int .i64 0, .int .i64 0, .int .i64 0, .int .i64 0] (by kernel_rfl) (by intro u hu; simp at hu; subst hu; rfl) g ((n - 1) * 4) (cap - (n - 1)) C1.toArray 106 hg1 (by
      simp only [List.size_toArray, hl1, Array.length_toList, List.length_cons, List.length_nil]; omega)
  obtain ⟨C2, hC2⟩ : ∃ C2, C1.take ((n - 1) * 4) ++ [Value.int .i64 0, .int .i64 0, .int .i64 0, .int .i64 0] ++ C1.drop ((n - 1) * 4 + [Value.int .i64 0, .int .i64 0, .int .i64 0, .int .i64 0].length) = C2 := ⟨_, rfl⟩
  simp only [hC2] at hrun2
  have hl2 : C2.length = C1.length := by
    rw [← hC2]
    simp only [List.length_append, List.length_take, List.length_drop, List.length_cons, List.length_nil, hl1, Array.length_toList]
    omega
  have ht2 : C2.take ((n - 1) * 4) = XS.take (i * 4) ++ XS.drop ((i + 1) * 4) := by
    rw [← hC2, List.append_assoc, List.take_append_of_le_length (by rw [List.length_take, hl1, Array.length_toList]; omega), List.take_take, Nat.min_self, show (n - 1) * 4 = n * 4 - 4 by omega]
    exact hl3
  have hXX : Xl [g] w ((w.drew.setRow g C1.toArray).setRow g C2.toArray) := Xl.trans _ _ _ (Xl.trans _ _ _ (Xl.of ((Ext.refl w).drew)) xl_setRow) xl_setRow
  have HPOST : Hid (DelPost w B (.slice (some ⟨g, 0, none⟩) n cap) l i (.returned (.slice (some ⟨g, 0, none⟩) (n - 1) cap)) ((w.drew.setRow g C1.toArray).setRow g C2.toArray)) := hid_mk ⟨_, rfl, by
    have e : (l.eraseIdx i).length = n - 1 := by rw [List.length_eraseIdx, if_pos (by rw [HN.out]; exact hi), HN.out]
    unfold OwnA
    rw [e, del_flat, hXS]
    refine ⟨by simp only [List.length_append, List.length_take, List.length_drop, hXl]; omega, .inr ⟨g, cap, C2.toArray, rfl, hBg, setRow_heap _ g C1.toArray C2.toArray 106 _ hg1, by omega, hc63, ?_, ?_⟩⟩
    · rw [List.size_toArray, hl2, hl1, Array.length_toList]; exact hcs
    · exact ht2, grown_of_xlg hXX, rfl⟩
  have HR1 := hid_mk hrun1
  have HR2 := hid_mk hrun2
  have hc64 : cap ≤ 9223372036854775807 := by unfold maxLen at hc63; exact hc63
  have HSRC := hid_mk hsrc
  clear hc63 hrun1 hrun2 hl1 hl2 hl3 hg1 hXX hC1 hC2 hXc hXl hXd hX1 ht2 hinf hs hby hz hcc hown hct hcs hg hBg hn hXS
  have hb1 : (i : Int) ≤ (i : Int) + 1 := by omega
  have hb2 : (i : Int) + 1 ≤ (n : Int) := by omega
  have hb3 : (n : Int) ≤ (cap : Int) := by omega
  have hb4 : ¬ ((i : Int) = (i : Int) + 1) := by omega
  have hb5 : (i : Int) ≤ (cap : Int) := by omega
  have hb6 : (0 : Int) ≤ (i : Int) + 1 := by omega
  have hb10 : ((i : Int) + 1).toNat = i + 1 := by omega
  obtain ⟨q, hq⟩ : ∃ q, n - 1 = q := ⟨_, rfl⟩
  rw [hq] at HR2 HPOST
  have hb7 : i + (n - (i + 1)) = q := by omega
  have hb8 : n - q = 1 := by omega
  have hb9 : ¬ (cap = q) := by omega
  have hq1 : (q : Int) ≤ (n : Int) := by omega
  have hq2 : (0 : Int) ≤ (q : Int) := by omega
  have hsub : IntKind.i64.wrap ((i : Int) + 1) = (i : Int) + 1 := wrapZ _ (by omega)
  clear hq
  by_cases hcj : cap = i + 1
  · obtain ⟨hni, hqi⟩ : n = i + 1 ∧ q = i := by omega
    rw [if_pos hcj] at hsrc
    subst hsrc
    have hr0 : n - (i + 1) = 0 := by omega
    have hr1 : cap - (i + 1) = 0 := by omega
    rw [hr0, hr1] at HR1
    rw [Nat.add_zero] at HR1
    rw [hqi] at HR2 HPOST
    have hc2 : cap - i = 1 := by omega
    rw [hc2] at HR2
    subst hni
    subst hcj
    clear hqi hq1 hq2 hb7 hb8 hb9 hr0 hr1 hnc hb2 hb3 hc2 q
    go_enter Try.func50, Try.ntmps50
    go_wp2_with fail
    refine wp_region_held_planC (Xl [g]) (fun _ => true) (fun i => [0, 1, 2, 3, 4, 5, 7].contains i) (.quiet 0 (.quiet 1 (.quiet 2 (.quiet 3 (.quiet 4 (.quiet 5 (.alt 6 (.quiet 7 .done) .stop))))))) (by kernel_rfl) (by kernel_rfl) Xl.refl Xl.trans (by intro c a w d v h; cases d <;> exact h) (fun ops HO => ?_)
    refine planC_calm _ (hi_of HO rfl) rfl (fun w' => by go_simp; rfl) ?_
    simp only [Act.put, List.setIfInBounds_toArray, List.set_cons_succ, List.set_cons_zero]
    refine planC_calm _ (hi_of HO rfl) rfl (fun w' => by go_simp; rfl) ?_
    simp only [Act.put, List.setIfInBounds_toArray, List.set_cons_succ, List.set_cons_zero]
    refine planC_calm _ (hi_of HO rfl) rfl (fun w' => by go_simp; rfl) ?_
    simp only [Act.put, List.setIfInBounds_toArray, List.set_cons_succ, List.set_cons_zero]
    refine planC_calm _ (hi_of HO rfl) rfl (fun w' => by go_simp; rfl) ?_
    simp only [Act.put, List.setIfInBounds_toArray, List.set_cons_succ, List.set_cons_zero]
    refine planC_calm _ (hi_of HO rfl) rfl (fun w' => by go_simp; rfl) ?_
    simp only [Act.put, List.setIfInBounds_toArray, List.set_cons_succ, List.set_cons_zero]
    refine planC_calm _ (hi_of HO rfl) rfl (fun w' => by go_simp; rfl) ?_
    simp only [Act.put, List.setIfInBounds_toArray, List.set_cons_succ, List.set_cons_zero]
    have hrun := HR1.out 102
    refine planC_loud1 (hi_of HO rfl) rfl ?_
    go_simp
    refine ⟨xl_setRow, ?_⟩
    clear hrun
    refine planC_calm _ (hi_of HO rfl) rfl (fun w' => by go_simp; rfl) ?_
    simp only [Act.put, List.setIfInBounds_toArray, List.set_cons_succ, List.set_cons_zero]
    refine planC_done ?fin101
    have hrun := HR2.out
    go_wp2
    go_ret
    exact HPOST.out
  · rw [if_neg hcj] at hsrc
    subst hsrc
    go_enter Try.func50, Try.ntmps50
    go_wp2_with fail
    refine wp_region_held_planC (Xl [g]) (fun _ => true) (fun i => [0, 1, 2, 3, 4, 5, 7].contains i) (.quiet 0 (.quiet 1 (.quiet 2 (.quiet 3 (.quiet 4 (.quiet 5 (.alt 6 (.quiet 7 .done) .stop))))))) (by kernel_rfl) (by kernel_rfl) Xl.refl Xl.trans (by intro c a w d v h; cases d <;> exact h) (fun ops HO => ?_)
    refine planC_calm _ (hi_of HO rfl) rfl (fun w' => by go_simp; rfl) ?_
    simp only [Act.put, List.setIfInBounds_toArray, List.set_cons_succ, List.set_cons_zero]
    refine planC_calm _ (hi_of HO rfl) rfl (fun w' => by go_simp; rfl) ?_
    simp only [Act.put, List.setIfInBounds_toArray, List.set_cons_succ, List.set_cons_zero]
    refine planC_calm _ (hi_of HO rfl) rfl (fun w' => by go_simp; rfl) ?_
    simp only [Act.put, List.setIfInBounds_toArray, List.set_cons_succ, List.set_cons_zero]
    refine planC_calm _ (hi_of HO rfl) rfl (fun w' => by go_simp; rfl) ?_
    simp only [Act.put, List.setIfInBounds_toArray, List.set_cons_succ, List.set_cons_zero]
    refine planC_calm _ (hi_of HO rfl) rfl (fun w' => by go_simp; rfl) ?_
    simp only [Act.put, List.setIfInBounds_toArray, List.set_cons_succ, List.set_cons_zero]
    refine planC_calm _ (hi_of HO rfl) rfl (fun w' => by go_simp; rfl) ?_
    simp only [Act.put, List.setIfInBounds_toArray, List.set_cons_succ, List.set_cons_zero]
    have hrun := HR1.out 102
    refine planC_loud1 (hi_of HO rfl) rfl ?_
    go_simp
    refine ⟨xl_setRow, ?_⟩
    clear hrun
    refine planC_calm _ (hi_of HO rfl) rfl (fun w' => by go_simp; rfl) ?_
    simp only [Act.put, List.setIfInBounds_toArray, List.set_cons_succ, List.set_cons_zero]
    refine planC_done ?fin102
    have hrun := HR2.out
    go_wp2
    go_ret
    exact HPOST.out
end Go.Proofs.Ytiimoaplhhnklaa
