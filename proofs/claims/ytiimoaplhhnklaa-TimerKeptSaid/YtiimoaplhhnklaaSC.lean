/- Timers: an alarm is put among the others (slices.Insert, as the library has it). -/
import Derived.Test.YtiimoaplhhnklaaSB
import Derived.Test.YtiimoaplhhnklaaReg3
import Derived.Laws.CopyRow
import Derived.Lib.Overlaps
import Derived.Lib.AppendZerosOnto
import Derived.Laws.NewBlocks
namespace Go.Proofs.Ytiimoaplhhnklaa
open Go.RowKit
set_option maxHeartbeats 4000000
set_option maxRecDepth 100000
set_option linter.unusedSimpArgs false
set_option linter.unusedVariables false

theorem run_copy_rowk {P : Program} (w : World) (dT sT ty elem : TypeId) (g o dLen dCap : Nat) (a : Addr) (sLen sCap : Nat) (cur : Array Value) (t : TypeId) (cs : List Value) (i : TypeInfo)
    (hu : P.underlying dT = some (.slice elem)) (hi : P.info? elem = some i)
    (hg : w.heap[g]? = some (.cells cur t (0, 0))) (n : Nat) (hm : Nat.min sLen dLen = n) (hn : cs.length = n * i.size)
    (hsrc : ∀ j v, cs[j]? = some v → w.cell? (a.add j) = some v) (hfit : o + cs.length ≤ cur.size) (h1 : ∀ v ∈ cs, v.oneCell' = true) :
    (Builtin.copy_ #[dT, sT] ty #[.slice (some ⟨g, o, none⟩) dLen dCap, .slice (some a) sLen sCap]).run P w =
      .ok (goInt n) (w.setRow g (cur.toList.take o ++ cs ++ cur.toList.drop (o + cs.length)).toArray) := by
  have hf := run_firstCells_some (P := P) w i.size n a sLen sCap cs hn hsrc
  have hst := run_storeCells_at P g o t cs 0 cur w hg (by simpa using hfit) h1
  simp [Builtin.copy_, run_underlying hu, Builtin.lenOf, sizeOf, typeInfo, hi, hm, hf, hst]
def cA (a : Al) : List Value := [.int .i64 a.1.1, .int .i64 a.1.2.1, .int .i64 a.1.2.2, .int .i64 a.2]
theorem cA_len (a : Al) : (cA a).length = 4 := rfl
theorem flatA_len : ∀ l : List Al, (l.flatMap cA).length = l.length * 4
  | [] => rfl
  | a :: l => by rw [List.flatMap_cons, List.length_append, cA_len, flatA_len l, List.length_cons]; omega
theorem flatA_take : ∀ (l : List Al) (i : Nat), (l.take i).flatMap cA = (l.flatMap cA).take (i * 4)
  | [], i => by simp
  | a :: l, 0 => by simp
  | a :: l, i + 1 => by
    rw [show (i + 1) * 4 = i * 4 + 1 + 1 + 1 + 1 by omega]
    simp only [List.take_succ_cons, List.flatMap_cons, flatA_take l i, cA, List.cons_append, List.nil_append]
theorem flatA_drop : ∀ (l : List Al) (i : Nat), (l.drop i).flatMap cA = (l.flatMap cA).drop (i * 4)
  | [], i => by simp
  | a :: l, 0 => by simp
  | a :: l, i + 1 => by
    rw [show (i + 1) * 4 = i * 4 + 1 + 1 + 1 + 1 by omega]
    simp only [List.drop_succ_cons, List.flatMap_cons, flatA_drop l i, cA, List.cons_append, List.nil_append]
theorem cA_one (l : List Al) : ∀ u ∈ l.flatMap cA, u.oneCell' = true := fun u hu => by
  obtain ⟨r, -, hr⟩ := List.mem_flatMap.1 hu
  simp [cA] at hr
  rcases hr with rfl | rfl | rfl | rfl <;> rfl
def OwnA (w : World) (B : Nat) (ty : TypeId) (v : Value) (l : List Al) : Prop := w.ownsRow B ty 4 v l.length (l.flatMap cA)
theorem radd_flat {b o j : Nat} : (⟨b, o, none⟩ : Addr).add j = ⟨b, o + j, none⟩ := by
  unfold Addr.add
  split
  · rename_i h; subst h; rfl
  · rfl
theorem al_info : ∃ i z, Try.prog.info? 106 = some i ∧ i.size = 4 ∧ i.bytes = 32 ∧ i.zero = some z ∧ z.cells = #[.int .i64 0, .int .i64 0, .int .i64 0, .int .i64 0] := ⟨_, _, rfl, rfl, rfl, rfl, rfl⟩
/-- What is put in: one alarm in a block of its own. -/
def OneA (w : World) (vb : Nat) (a : Al) : Prop := w.heap[vb]? = some (.cells (cA a).toArray 106 (0, 0))
theorem OneA.cell {w : World} {vb : Nat} {a : Al} (h : OneA w vb a) : ∀ j u, (cA a)[j]? = some u → w.cell? ((⟨vb, 0, none⟩ : Addr).add j) = some u := fun j u hu => by
  rw [radd_flat, Nat.zero_add]
  have h' : w.heap[vb]? = some (.cells (cA a).toArray 106 (0, 0)) := h
  simp [World.cell?, h', hu]
theorem xl_setRow {w : World} {g : Nat} {cs : Array Value} : Xl [g] w (w.setRow g cs) := ⟨rfl, rfl, rfl, by simp [World.setRow], fun k hk hn => setRow_other w g k cs (by rintro rfl; exact hn (by simp))⟩
theorem ins_flat (a : Al) (l : List Al) (i : Nat) : (l.take i ++ a :: l.drop i).flatMap cA = (l.flatMap cA).take (i * 4) ++ cA a ++ (l.flatMap cA).drop (i * 4) := by
  rw [List.flatMap_append, List.flatMap_cons, flatA_take, flatA_drop, List.append_assoc]
attribute [-go_sem] Builtin.append_
def InsPost (w : World) (B : Nat) (v : Value) (l : List Al) (i : Nat) (a : Al) (e : Ending) (w' : World) : Prop :=
  ∃ v', e = .returned v' ∧ OwnA w' B 106 v' (l.take i ++ a :: l.drop i) ∧ w.grownBy w' v.ownBlock ∧ (v'.ownBlock = v.ownBlock ∨ ∃ g, w.heap.size ≤ g ∧ v'.ownBlock = some g)
theorem ins_end {w : World} {B vb c : Nat} {v : Value} {l : List Al} {a : Al} (hown : OwnA w B 106 v l) (hv : OneA w vb a) (hl : l.length + 1 ≤ 1000000000000) (hB : B ≤ w.heap.size) :
    Calls Try.prog 49 #[v, .int .i64 (l.length : Int), .slice (some ⟨vb, 0, none⟩) 1 c] w (InsPost w B v l l.length a) := by
  obtain ⟨i0, z, hinf, hs, hby, hz, hcc⟩ := al_info
  obtain ⟨v', w', hrun, k2, k3, -, k5⟩ := run_append_own_at (P := Try.prog) w B 102 102 106 i0 z 4 32 Try.underlying102 hinf hz hs hby (by rw [hcc]; rfl) (by omega) v l.length (l.flatMap cA) hown ⟨vb, 0, none⟩ 1 c (cA a) rfl
    hv.cell (by intro u hu; exact cA_one [a] u (by simpa using hu)) (by unfold maxLen; omega) (by omega) hB
  obtain ⟨ad, cc, rfl⟩ := own_form hown
  have HPOST : Hid (InsPost w B (.slice ad l.length cc) l l.length a (.returned v') w') := hid_mk ⟨v', rfl, by
    unfold OwnA
    rw [ins_flat, List.take_of_length_le (show (l.flatMap cA).length ≤ l.length * 4 from Nat.le_of_eq (flatA_len l)), List.drop_eq_nil_of_le (show (l.flatMap cA).length ≤ l.length * 4 from Nat.le_of_eq (flatA_len l)), List.append_nil, List.length_append, List.length_cons, List.length_take, List.length_drop, Nat.min_self, Nat.sub_self]
    simpa using k2, k3, k5.imp id fun e => ⟨_, Nat.le_refl _, e⟩⟩
  have hn62 : l.length < 4611686018427387904 := by omega
  have hnc : l.length ≤ cc := by
    rcases hown.2 with ⟨e, h0⟩ | ⟨g, cap, cur, e, -, -, h4, -⟩
    · omega
    · simp only [Value.slice.injEq] at e; omega
  clear k2 k3 k5 hown hv hinf hz hs hby hcc
  go_enter Try.func49, Try.ntmps49
  go_wp2
  all_goals
    go_ret
    first | exact HPOST.out | (have hq : cc = l.length := by assumption
                               rw [hq] at HPOST
                               exact HPOST.out)
theorem shift_list {C XS A : List Value} {p m : Nat} (hX : C.take m = XS) (hpm : p ≤ m) (hC : m + 4 ≤ C.length) (hA : A.length = 4) :
    let C1 := C.take (p + 4) ++ XS.drop p ++ C.drop (p + 4 + (XS.drop p).length)
    let C2 := C1.take p ++ A ++ C1.drop (p + A.length)
    C1.length = C.length ∧ C2.length = C.length ∧ C2.take (m + 4) = XS.take p ++ A ++ XS.drop p := by
  subst hX
  intro C1 C2
  have l1 : ((C.take m).drop p).length = m - p := by rw [List.length_drop, List.length_take]; omega
  have h1 : C1.length = C.length := by
    simp only [C1, List.length_append, List.length_take, List.length_drop]
    omega
  have h2 : C1.take p = (C.take m).take p := by
    simp only [C1]
    rw [List.append_assoc, List.take_append_of_le_length (by rw [List.length_take]; omega), List.take_take, List.take_take]
    congr 1
    omega
  have h3 : C1.drop (p + 4) = (C.take m).drop p ++ C.drop (m + 4) := by
    simp only [C1]
    rw [List.append_assoc, List.drop_append, List.drop_eq_nil_of_le (by rw [List.length_take]; omega), List.nil_append, List.length_take, Nat.min_eq_left (by omega), Nat.sub_self, List.drop_zero, l1]
    congr 2
    omega
  have h4 : C2 = ((C.take m).take p ++ A ++ (C.take m).drop p) ++ C.drop (m + 4) := by
    simp only [C2]
    rw [h2, hA, h3, ← List.append_assoc]
  refine ⟨h1, ?_, ?_⟩
  · rw [h4]
    simp only [List.length_append, List.length_take, List.length_drop]
    omega
  · rw [h4, List.take_append_of_le_length (by simp only [List.length_append, List.length_take, List.length_drop]; omega), List.take_of_length_le (by simp only [List.length_append, List.length_take, List.length_drop]; omega)]
theorem grown_of_xlg {w w' : World} {b : Nat} (h : Xl [b] w w') : w.grownBy w' (some b) := ⟨h.os, h.tape, h.output, h.size, fun k hk hn => h.block k hk (by simp; rintro rfl; exact hn rfl)⟩
theorem ovl_any {w : World} {vb g c i : Nat} {a : Al} {cur : Array Value} (lb cb : Nat) (hv : OneA w vb a) (hg : w.heap[g]? = some (.cells cur 106 (0, 0))) (hvg : vb ≠ g) (h0 : cur.size ≠ 0) :
    (callFunc 68 #[.slice (some ⟨vb, 0, none⟩) 1 c, .slice (some ⟨g, (i + 1) * 4, none⟩) lb cb]).run Try.prog w = .ok (.value (.bool false)) w := by
  have hsh : ∀ b cs t, w.heap[b]? = some (.cells cs t (0, 0)) → w.shape? b = some (t, cs.size) := fun b cs t h => by simp [World.shape?, h]
  have hvv : w.heap[vb]? = some (.cells (cA a).toArray 106 (0, 0)) := hv
  have hfr : ∀ o, w.frozen? ⟨vb, o, none⟩ = false := fun o => by simp [World.frozen?, hvv]
  have hrun := Lib.run_overlaps_apart (P := Try.prog) w 102 4 106 Try.underlying102 4 Try.sizeOf106 ⟨vb, 0, none⟩ ⟨g, (i + 1) * 4, none⟩ 1 c lb cb hvg 106 106 4 cur.size (hsh _ _ _ hvv) (hsh _ _ _ hg) h0 (hfr 0) (hfr 4)
  rw [run_callFunc_extern Try.func68 (by kernel_rfl) (by kernel_rfl) (by kernel_rfl) (e := Extern.SlicesOverlaps.overlaps #[102, 102] #[4]) (by kernel_rfl), hrun]
  rfl
theorem ins_shift {w : World} {B vb c g cap i : Nat} {l : List Al} {a : Al} (hown : OwnA w B 106 (.slice (some ⟨g, 0, none⟩) l.length cap) l) (hv : OneA w vb a) (hi : i < l.length) (hroom : l.length < cap) (hvg : vb ≠ g) (hl : l.length + 1 ≤ 1000000000000) (hB : B ≤ w.heap.size) :
    Calls Try.prog 49 #[.slice (some ⟨g, 0, none⟩) l.length cap, .int .i64 (i : Int), .slice (some ⟨vb, 0, none⟩) 1 c] w (InsPost w B (.slice (some ⟨g, 0, none⟩) l.length cap) l i a) := by
  rcases hown.2 with ⟨e, -⟩ | ⟨g', cap', cur, e, hBg, hg, -, hc63, hcs, hct⟩
  · cases e
  cases e
  obtain ⟨i0, z, hinf, hs, hby, hz, hcc⟩ := al_info
  obtain ⟨n, hn⟩ : ∃ n, l.length = n := ⟨_, rfl⟩
  have HN := hid_mk hn
  rw [hn] at hi hroom hl hct hown ⊢
  have hov := fun lb cb => ovl_any (i := i) (c := c) lb cb hv hg hvg (by omega)
  have hXl : (l.flatMap cA).length = n * 4 := by rw [flatA_len, HN.out]
  have hXd : ((l.flatMap cA).drop (i * 4)).length = (n - i) * 4 := by rw [List.length_drop, hXl]; omega
  have hsl := shift_list (A := cA a) (p := i * 4) hct (by omega) (by rw [Array.length_toList]; omega) rfl
  have hcw : ∀ j u, cur[j]? = some u → w.drew.cell? ⟨g, j, none⟩ = some u := fun j u hu => by
    have hg' : w.drew.heap[g]? = some (.cells cur 106 (0, 0)) := hg
    simp [World.cell?, hg', hu]
  have hcp1 : ∀ ty, (Builtin.copy_ #[102, 102] ty #[.slice (some ⟨g, (i + 1) * 4, none⟩) (n - i) (cap - (i + 1)), .slice (some ⟨g, i * 4, none⟩) (n + 1 - i) (cap - i)]).run Try.prog w.drew = _ := fun ty =>
    run_copy_rowk w.drew 102 102 ty 106 g ((i + 1) * 4) (n - i) (cap - (i + 1)) ⟨g, i * 4, none⟩ (n + 1 - i) (cap - i) cur 106 ((l.flatMap cA).drop (i * 4)) i0 Try.underlying102 hinf hg (n - i) (by simp only [Nat.min_def]; split <;> omega) (by rw [hs]; exact hXd)
      (fun j u hj => by
        rw [radd_flat]
        refine hcw _ _ ?_
        rw [List.getElem?_drop, ← hct, List.getElem?_take] at hj
        split at hj
        · rw [← Array.getElem?_toList]; exact hj
        · cases hj)
      (by rw [hXd]; omega) (fun u hu => cA_one l u (List.mem_of_mem_drop hu))
  obtain ⟨C1, hC1⟩ : ∃ C1, cur.toList.take ((i + 1) * 4) ++ (l.flatMap cA).drop (i * 4) ++ cur.toList.drop ((i + 1) * 4 + ((l.flatMap cA).drop (i * 4)).length) = C1 := ⟨_, rfl⟩
  rw [hC1] at hcp1
  rw [show i * 4 + 4 = (i + 1) * 4 by omega, hC1] at hsl
  obtain ⟨hl1, hl2, hl3⟩ := hsl
  have hg1 : (w.drew.setRow g C1.toArray).heap[g]? = some (.cells C1.toArray 106 (0, 0)) := setRow_heap w.drew g cur C1.toArray 106 _ hg
  have hv1 : OneA (w.drew.setRow g C1.toArray) vb a := (setRow_other w.drew g vb C1.toArray hvg).trans hv
  have hcp2 : ∀ ty, (Builtin.copy_ #[102, 102] ty #[.slice (some ⟨g, i * 4, none⟩) (n + 1 - i) (cap - i), .slice (some ⟨vb, 0, none⟩) 1 c]).run Try.prog (w.drew.setRow g C1.toArray) = _ := fun ty =>
    run_copy_rowk (w.drew.setRow g C1.toArray) 102 102 ty 106 g (i * 4) (n + 1 - i) (cap - i) ⟨vb, 0, none⟩ 1 c C1.toArray 106 (cA a) i0 Try.underlying102 hinf hg1 1 (by simp only [Nat.min_def]; split <;> omega) (by rw [hs]; rfl)
      hv1.cell (by simp only [cA_len, List.size_toArray, hl1, Array.length_toList]; omega) (by intro u hu; exact cA_one [a] u (by simpa using hu))
  obtain ⟨C2, hC2⟩ : ∃ C2, C1.take (i * 4) ++ cA a ++ C1.drop (i * 4 + (cA a).length) = C2 := ⟨_, rfl⟩
  rw [hC2] at hl2 hl3
  simp only [hC2] at hcp2
  have hXX : Xl [g] w ((w.drew.setRow g C1.toArray).setRow g C2.toArray) := Xl.trans _ _ _ (Xl.trans _ _ _ (Xl.of ((Ext.refl w).drew)) xl_setRow) xl_setRow
  have HPOST : Hid (InsPost w B (.slice (some ⟨g, 0, none⟩) n cap) l i a (.returned (.slice (some ⟨g, 0, none⟩) (n + 1) cap)) ((w.drew.setRow g C1.toArray).setRow g C2.toArray)) := hid_mk ⟨_, rfl, by
    have e : (l.take i ++ a :: l.drop i).length = n + 1 := by rw [List.length_append, List.length_cons, List.length_take, List.length_drop, HN.out]; omega
    unfold OwnA
    rw [e, ins_flat]
    refine ⟨by rw [List.length_append, List.length_append, List.length_take, hXd, hXl, cA_len, Nat.min_eq_left (by omega)]; omega, .inr ⟨g, cap, C2.toArray, rfl, hBg, setRow_heap _ g C1.toArray C2.toArray 106 _ hg1, by omega, hc63, ?_, ?_⟩⟩
    · rw [List.size_toArray, hl2, Array.length_toList]; exact hcs
    · rw [show (n + 1) * 4 = n * 4 + 4 by omega]; exact hl3, grown_of_xlg hXX, .inl rfl⟩
  have HCP1 := hid_mk hcp1
  have HCP2 := hid_mk hcp2
  have hc64 : cap ≤ 9223372036854775807 := by unfold maxLen at hc63; exact hc63
  clear hc63 hcp1 hcp2 hl1 hl2 hl3 hg1 hv1 hXX hC1 hC2 hcw hXl hXd
  have h0 : ¬ ((1 : Int) = 0) := by omega
  have hb1 : (0 : Int) ≤ (i : Int) + 1 := by omega
  have hb2 : ¬ (cap = i + 1) := by omega
  have hb3 : (i : Int) ≤ (n : Int) + 1 := by omega
  have hb4 : ¬ (cap = i) := by omega
  have hb5 : ¬ ((i : Int) = (n : Int)) := by omega
  have hb6 : (i : Int) ≤ (n : Int) := by omega
  have hb7 : (i : Int) + 1 ≤ (n : Int) + 1 := by omega
  have hb8 : (n : Int) + 1 ≤ (cap : Int) := by omega
  have hb9 : ¬ ((cap : Int) < (n : Int) + 1) := by omega
  have hb10 : (0 : Int) ≤ (n : Int) + 1 := by omega
  have hw1 : IntKind.i64.wrap ((i : Int) + 1) = (i : Int) + 1 := wrapZ _ (by omega)
  have hw2 : IntKind.i64.wrap ((n : Int) + 1) = (n : Int) + 1 := wrapZ _ (by omega)
  have hw3 : wrap64 ((i : Int) + 1) = (i : Int) + 1 := w64in (by clear hw1 hw2; omega)
  have hw4 : wrap64 ((n : Int) + 1) = (n : Int) + 1 := w64in (by clear hw1 hw2 hw3; omega)
  have ht1 : ((i : Int) + 1).toNat = i + 1 := by clear hw1 hw2 hw3 hw4; omega
  have ht2 : ((n : Int) + 1).toNat = n + 1 := by clear hw1 hw2 hw3 hw4; omega
  clear hn hvg hB hBg hg hcs hinf hs hby hz hcc hown hct hv
  go_enter Try.func49, Try.ntmps49
  go_wp2_with (simp only [hov])
  refine wp_region_held_planC (Xl [g]) (fun _ => true) (fun i => [0, 1, 2, 3, 4, 5, 6, 7].contains i) (.quiet 0 (.quiet 1 (.quiet 2 (.quiet 3 (.quiet 4 (.quiet 5 (.quiet 6 (.quiet 7 (.alt 8 .done .stop))))))))) (by kernel_rfl) (by kernel_rfl) Xl.refl Xl.trans (by intro c a w d v h; cases d <;> exact h) (fun ops HO => ?_)
  refine planC_calm _ (hi_of HO rfl) rfl (fun w' => by go_simp; rfl) ?_
  simp only [Act.put, List.setIfInBounds_toArray, List.set_cons_succ, List.set_cons_zero]
  refine planC_calm _ (hi_of HO rfl) rfl (fun w' => by go_simp; rfl) ?_
  simp only [Act.put, List.setIfInBounds_toArray, List.set_cons_succ, List.set_cons_zero]
  refine planC_calm _ (hi_of HO rfl) rfl (fun w' => by go_simp; rfl) ?_
  simp only [Act.put, List.setIfInBounds_toArray, List.set_cons_succ, List.set_cons_zero]
  refine planC_calm _ (hi_of HO rfl) rfl (fun w' => by go_simp; rfl) ?_
  simp only [Act.put, List.setIfInBounds_toArray, List.set_cons_succ, List.set_cons_zero]
  refine planC_calm _ (hi_of HO rfl) rfl (fun w' => by go_simp; rfl) ?_
  simp only [Act.put, List.setIfInBounds_toArray, List.set_cons_succ, List.set_cons_zero]
  refine planC_calm _ (hi_of HO rfl) rfl (fun w' => by go_simp; rfl) ?_
  simp only [Act.put, List.setIfInBounds_toArray, List.set_cons_succ, List.set_cons_zero]
  refine planC_calm _ (hi_of HO rfl) rfl (fun w' => by go_simp; rfl) ?_
  simp only [Act.put, List.setIfInBounds_toArray, List.set_cons_succ, List.set_cons_zero]
  refine planC_calm _ (hi_of HO rfl) rfl (fun w' => by go_simp; rfl) ?_
  simp only [Act.put, List.setIfInBounds_toArray, List.set_cons_succ, List.set_cons_zero]
  have hrun := HCP1.out 3
  refine planC_loud1 (hi_of HO rfl) rfl ?_
  go_simp
  refine ⟨xl_setRow, ?_⟩
  clear hrun
  refine planC_done ?fin101
  have hrun := HCP2.out 3
  go_wp2
  go_ret
  exact HPOST.out
theorem ins_grow {w : World} {B vb c g i : Nat} {l : List Al} {a : Al} (hown : OwnA w B 106 (.slice (some ⟨g, 0, none⟩) l.length l.length) l) (hv : OneA w vb a) (hi : i < l.length) (hl : l.length + 1 ≤ 1000000000000) (hB : B ≤ w.heap.size) :
    Calls Try.prog 49 #[.slice (some ⟨g, 0, none⟩) l.length l.length, .int .i64 (i : Int), .slice (some ⟨vb, 0, none⟩) 1 c] w (InsPost w B (.slice (some ⟨g, 0, none⟩) l.length l.length) l i a) := by
  have hglt := World.ownsRow.lt hown g rfl
  rcases hown.2 with ⟨e, -⟩ | ⟨g', cap', cur, e, hBg, hg, -, hc63, hcs, hct⟩
  · cases e
  obtain ⟨rfl, hcap⟩ : g = g' ∧ cap' = l.length := by simp only [Value.slice.injEq, Option.some.injEq, Addr.mk.injEq] at e; exact ⟨e.1.1, e.2.2.symm⟩
  subst hcap
  obtain ⟨i0, z, hinf, hs, hby, hz, hcc⟩ := al_info
  obtain ⟨n, hn⟩ : ∃ n, l.length = n := ⟨_, rfl⟩
  have HN := hid_mk hn
  rw [hn] at hi hl hct hown hcs ⊢
  obtain ⟨XS, hXS⟩ : ∃ XS, l.flatMap cA = XS := ⟨_, rfl⟩
  have hXl : XS.length = n * 4 := by rw [← hXS, flatA_len, HN.out]
  have hX1 : ∀ u ∈ XS, u.oneCell' = true := by rw [← hXS]; exact cA_one l
  rw [hXS] at hct
  have hXd : (XS.drop (i * 4)).length = (n - i) * 4 := by rw [List.length_drop, hXl]; omega
  have hXc : ∀ j u, XS[j]? = some u → cur[j]? = some u := fun j u hj => by
    rw [← hct, List.getElem?_take] at hj
    split at hj
    · rw [← Array.getElem?_toList]; exact hj
    · cases hj
  have hcw : ∀ (W : World), W.heap[g]? = some (.cells cur 106 (0, 0)) → ∀ j u, XS[j]? = some u → W.cell? ⟨g, j, none⟩ = some u := fun W hW j u hu => by
    simp [World.cell?, hW, hXc j u hu]
  have hold : (Builtin.firstCells i0.size i (.slice (some ⟨g, 0, none⟩) i n)).run Try.prog w.drew = .ok (XS.take (i * 4)).toArray w.drew := by
    refine run_firstCells_some w.drew i0.size i ⟨g, 0, none⟩ i n (XS.take (i * 4)) (by rw [hs, List.length_take, hXl]; omega) (fun j u hj => ?_)
    rw [radd_flat, Nat.zero_add]
    rw [List.getElem?_take] at hj
    split at hj
    · exact hcw w.drew hg j u hj
    · cases hj
  obtain ⟨k, hk⟩ : ∃ k, n + 1 - i = k := ⟨_, rfl⟩
  have hik : i + k = n + 1 := by omega
  have hkk : (n : Int) + 1 - (i : Int) = (k : Int) := by omega
  have hrz := fun ty => Lib.run_append_grow_zeros (P := Try.prog) w 102 3 ty 106 i0 z .i64 .i64 Try.underlying102 Try.underlying3 hinf hz (some ⟨g, 0, none⟩) i n (XS.take (i * 4)) hold k (by omega) (by omega) (by omega) (by omega) (by rw [hby]; omega) (by rw [hby, hik]; exact growslice_fits (by omega) (by omega))
  rw [hik] at hrz
  have hG1 : n + 1 ≤ grownCap w (n + 1) n 106 := grownCap_ge w _ _ _
  have hG2 := grownCap_le_maxLen w (n + 1) n 106 (by unfold maxLen; omega)
  obtain ⟨G, hG⟩ : ∃ G, grownCap w (n + 1) n 106 = G := ⟨_, rfl⟩
  obtain ⟨ROW, hROW⟩ : ∃ ROW : Array Value, (XS.take (i * 4)).toArray ++ Builtin.zeroCells z.cells k ++ Builtin.zeroCells z.cells (G - (n + 1)) = ROW := ⟨_, rfl⟩
  rw [hG] at hrz hG1 hG2
  rw [hROW] at hrz
  have hRs : ROW.size = G * 4 := by
    rw [← hROW, Array.size_append, Array.size_append, size_zeroCells, size_zeroCells, hcc, List.size_toArray, List.length_take, hXl]
    show min (i * 4) (n * 4) + k * 4 + (G - (n + 1)) * 4 = G * 4
    omega
  have hRt : ROW.toList.take (i * 4) = XS.take (i * 4) := by
    rw [← hROW, Array.toList_append, Array.toList_append, List.append_assoc, List.toList_toArray, List.take_append_of_le_length (by rw [List.length_take, hXl]; omega), List.take_take, Nat.min_self]
  obtain ⟨H, hH⟩ : ∃ H, w.heap.size = H := ⟨_, rfl⟩
  obtain ⟨W1, hW1⟩ : ∃ W1, w.drew.alloc (.cells ROW 106) = W1 := ⟨_, rfl⟩
  have hgH : g ≠ H := by omega
  have hvH : vb ≠ H := by
    have : vb < w.heap.size := by
      have h : w.heap[vb]? = some (.cells (cA a).toArray 106 (0, 0)) := hv
      exact (Array.getElem?_eq_some_iff.1 h).1
    omega
  have x1 : Ext w W1 := by rw [← hW1]; exact ((Ext.refl w).drew).alloc _
  have hgr1 : W1.heap[H]? = some (.cells ROW 106 (0, 0)) := by rw [← hW1, ← hH]; exact heap_alloc_new w.drew _
  have hrz1 : ∀ ty, (Builtin.append_ #[102, 3] ty #[.slice (some ⟨g, 0, none⟩) i n, .int .i64 (k : Int)]).run Try.prog w = .ok (.slice (some ⟨H, 0, none⟩) (n + 1) G) W1 := fun ty => by rw [hrz ty, hH, hW1]
  have hv1 : OneA W1 vb a := (x1.below.block vb (by have h : w.heap[vb]? = some (.cells (cA a).toArray 106 (0, 0)) := hv; exact (Array.getElem?_eq_some_iff.1 h).1)).trans hv
  have hcp1 : ∀ ty, (Builtin.copy_ #[102, 102] ty #[.slice (some ⟨H, i * 4, none⟩) (n + 1 - i) (G - i), .slice (some ⟨vb, 0, none⟩) 1 c]).run Try.prog W1 = _ := fun ty =>
    run_copy_rowk W1 102 102 ty 106 H (i * 4) (n + 1 - i) (G - i) ⟨vb, 0, none⟩ 1 c ROW 106 (cA a) i0 Try.underlying102 hinf hgr1 1 (by simp only [Nat.min_def]; split <;> omega) (by rw [hs]; rfl)
      hv1.cell (by rw [cA_len, hRs]; omega) (by intro u hu; exact cA_one [a] u (by simpa using hu))
  obtain ⟨C1, hC1⟩ : ∃ C1, ROW.toList.take (i * 4) ++ cA a ++ ROW.toList.drop (i * 4 + (cA a).length) = C1 := ⟨_, rfl⟩
  rw [hC1] at hcp1
  have hl1 : C1.length = G * 4 := by
    rw [← hC1]
    simp only [List.length_append, List.length_take, List.length_drop, cA_len, Array.length_toList, hRs]
    omega
  have ht1 : C1.take ((i + 1) * 4) = XS.take (i * 4) ++ cA a := by
    rw [← hC1, hRt, List.take_append_of_le_length (by rw [List.length_append, List.length_take, cA_len, hXl]; omega), List.take_of_length_le (by rw [List.length_append, List.length_take, cA_len, hXl]; omega)]
  have hgr2 : (W1.setRow H C1.toArray).drew.heap[H]? = some (.cells C1.toArray 106 (0, 0)) := setRow_heap W1 H ROW C1.toArray 106 _ hgr1
  have hg2 : (W1.setRow H C1.toArray).drew.heap[g]? = some (.cells cur 106 (0, 0)) := (setRow_other W1 H g C1.toArray hgH).trans ((x1.below.block g hglt.2).trans hg)
  have hcp2 : ∀ ty, (Builtin.copy_ #[102, 102] ty #[.slice (some ⟨H, (i + 1) * 4, none⟩) (n - i) (G - (i + 1)), .slice (some ⟨g, i * 4, none⟩) (n - i) (n - i)]).run Try.prog (W1.setRow H C1.toArray).drew = _ := fun ty =>
    run_copy_rowk (W1.setRow H C1.toArray).drew 102 102 ty 106 H ((i + 1) * 4) (n - i) (G - (i + 1)) ⟨g, i * 4, none⟩ (n - i) (n - i) C1.toArray 106 (XS.drop (i * 4)) i0 Try.underlying102 hinf hgr2 (n - i) (by simp only [Nat.min_def]; split <;> omega) (by rw [hs]; exact hXd)
      (fun j u hj => by rw [radd_flat]; rw [List.getElem?_drop] at hj; exact hcw _ hg2 _ _ hj)
      (by simp only [List.size_toArray, hl1, hXd]; omega) (fun u hu => hX1 u (List.mem_of_mem_drop hu))
  obtain ⟨C2, hC2⟩ : ∃ C2, C1.take ((i + 1) * 4) ++ XS.drop (i * 4) ++ C1.drop ((i + 1) * 4 + (XS.drop (i * 4)).length) = C2 := ⟨_, rfl⟩
  rw [hC2] at hcp2
  have hl2 : C2.length = G * 4 := by
    rw [← hC2]
    simp only [List.length_append, List.length_take, List.length_drop, hl1, hXl]
    omega
  have ht2 : C2.take ((n + 1) * 4) = XS.take (i * 4) ++ cA a ++ XS.drop (i * 4) := by
    rw [← hC2, ht1, List.take_append_of_le_length (by simp only [List.length_append, List.length_take, List.length_drop, cA_len, hXl]; omega), List.take_of_length_le (by simp only [List.length_append, List.length_take, List.length_drop, cA_len, hXl]; omega)]
  have hXX : Ext w ((W1.setRow H C1.toArray).drew.setRow H C2.toArray) := by
    have e1 : Xl [H] W1 ((W1.setRow H C1.toArray).drew.setRow H C2.toArray) := Xl.trans _ _ _ (Xl.trans _ _ _ xl_setRow (Xl.of ((Ext.refl _).drew))) xl_setRow
    exact Xl.ext x1 e1 (by simp; omega)
  have HPOST : Hid (InsPost w B (.slice (some ⟨g, 0, none⟩) n n) l i a (.returned (.slice (some ⟨H, 0, none⟩) (n + 1) G)) ((W1.setRow H C1.toArray).drew.setRow H C2.toArray)) := hid_mk ⟨_, rfl, by
    have e : (l.take i ++ a :: l.drop i).length = n + 1 := by rw [List.length_append, List.length_cons, List.length_take, List.length_drop, HN.out]; omega
    unfold OwnA
    rw [e, ins_flat, hXS]
    refine ⟨by simp only [List.length_append, List.length_take, List.length_drop, cA_len, hXl]; omega, .inr ⟨H, G, C2.toArray, rfl, by omega, setRow_heap _ H C1.toArray C2.toArray 106 _ hgr2, by omega, hG2, ?_, ?_⟩⟩
    · rw [List.size_toArray, hl2]
    · exact ht2, grown_of_ext hXX _, .inr ⟨H, by omega, rfl⟩⟩
  have HRZ := hid_mk hrz1
  have HCP1 := hid_mk hcp1
  have HCP2 := hid_mk hcp2
  have hG3 : G ≤ 9223372036854775807 := by unfold maxLen at hG2; exact hG2
  have HKK := hid_mk hkk
  have hkk2 := hkk
  clear hc63 hcp1 hcp2 hl1 hl2 hgr1 hgr2 hv1 hXX hC1 hC2 hcw hXl hXd hX1 hXc hold hrz hrz1 hG2 hG hROW hRs hRt hW1 hH hgH hvH x1 ht1 ht2 hg2 hXS e hv hown hg hBg hcs hct hinf hs hby hz hcc hglt hB hkk hn
  have h0 : ¬ ((1 : Int) = 0) := by omega
  have hb1 : (0 : Int) ≤ (i : Int) + 1 := by omega
  have hb2 : ¬ (G = i + 1) := by omega
  have hb3 : ¬ (n = i) := by omega
  have hb4 : ¬ (G = i) := by omega
  have hb5 : ¬ ((i : Int) = (n : Int)) := by omega
  have hb6 : (i : Int) ≤ (n : Int) := by omega
  have hb7 : (i : Int) + 1 ≤ (n : Int) + 1 := by omega
  have hb10 : (0 : Int) ≤ (n : Int) + 1 := by omega
  have hb11 : (i : Int) ≤ (n : Int) + 1 := by omega
  have hw1 : IntKind.i64.wrap ((i : Int) + 1) = (i : Int) + 1 := wrapZ _ (by clear hkk2; omega)
  have hw2 : IntKind.i64.wrap ((n : Int) + 1) = (n : Int) + 1 := wrapZ _ (by clear hw1 hkk2; omega)
  have hw3 : wrap64 ((i : Int) + 1) = (i : Int) + 1 := w64in (by clear hw1 hw2 hkk2; omega)
  have hw4 : wrap64 ((n : Int) + 1) = (n : Int) + 1 := w64in (by clear hw1 hw2 hw3 hkk2; omega)
  have hw5 : wrap64 (k : Int) = (k : Int) := w64in (by clear hw1 hw2 hw3 hw4 hkk2; omega)
  have ht1 : ((i : Int) + 1).toNat = i + 1 := by clear hw1 hw2 hw3 hw4 hw5; omega
  have ht2 : ((n : Int) + 1).toNat = n + 1 := by clear hw1 hw2 hw3 hw4 hw5; omega
  have hrz := HRZ.out
  go_enter Try.func49, Try.ntmps49
  have hrun := HCP1.out 3
  rw [hk] at hrun
  go_wp2_with fail
  clear hrun
  refine wp_region_held_planC (Xl [H]) (fun _ => true) (fun i => [0, 1, 2, 3, 4, 5, 6, 7].contains i) (.quiet 0 (.quiet 1 (.quiet 2 (.quiet 3 (.quiet 4 (.quiet 5 (.quiet 6 (.quiet 7 (.alt 8 .done .stop))))))))) (by kernel_rfl) (by kernel_rfl) Xl.refl Xl.trans (by intro c a w d v h; cases d <;> exact h) (fun ops HO => ?_)
  refine planC_calm _ (hi_of HO rfl) rfl (fun w' => by go_simp; rfl) ?_
  simp only [Act.put, List.setIfInBounds_toArray, List.set_cons_succ, List.set_cons_zero]
  refine planC_calm _ (hi_of HO rfl) rfl (fun w' => by go_simp; rfl) ?_
  simp only [Act.put, List.setIfInBounds_toArray, List.set_cons_succ, List.set_cons_zero]
  refine planC_calm _ (hi_of HO rfl) rfl (fun w' => by go_simp; rfl) ?_
  simp only [Act.put, List.setIfInBounds_toArray, List.set_cons_succ, List.set_cons_zero]
  refine planC_calm _ (hi_of HO rfl) rfl (fun w' => by go_simp; rfl) ?_
  simp only [Act.put, List.setIfInBounds_toArray, List.set_cons_succ, List.set_cons_zero]
  refine planC_calm _ (hi_of HO rfl) rfl (fun w' => by go_simp; rfl) ?_
  simp only [Act.put, List.setIfInBounds_toArray, List.set_cons_succ, List.set_cons_zero]
  refine planC_calm _ (hi_of HO rfl) rfl (fun w' => by go_simp; rfl) ?_
  simp only [Act.put, List.setIfInBounds_toArray, List.set_cons_succ, List.set_cons_zero]
  refine planC_calm _ (hi_of HO rfl) rfl (fun w' => by go_simp; rfl) ?_
  simp only [Act.put, List.setIfInBounds_toArray, List.set_cons_succ, List.set_cons_zero]
  refine planC_calm _ (hi_of HO rfl) rfl (fun w' => by go_simp; rfl) ?_
  simp only [Act.put, List.setIfInBounds_toArray, List.set_cons_succ, List.set_cons_zero]
  have hrun := HCP2.out 3
  refine planC_loud1 (hi_of HO rfl) rfl ?_
  go_simp
  refine ⟨xl_setRow, ?_⟩
  clear hrun
  refine planC_done ?fin102
  go_wp2
  go_ret
  exact HPOST.out
/-- slices.Insert of one alarm. -/
theorem insert_any {w : World} {B vb c i : Nat} {v : Value} {l : List Al} {a : Al} (hown : OwnA w B 106 v l) (hv : OneA w vb a) (hvg : v.ownBlock ≠ some vb) (hi : i ≤ l.length) (hl : l.length + 1 ≤ 1000000000000) (hB : B ≤ w.heap.size) :
    Calls Try.prog 49 #[v, .int .i64 (i : Int), .slice (some ⟨vb, 0, none⟩) 1 c] w (InsPost w B v l i a) := by
  rcases Nat.lt_or_ge i l.length with h | h
  · have h2 := hown.2
    rcases h2 with ⟨e, h0⟩ | ⟨g, cap, cur, e, -, -, h4, -⟩
    · omega
    · subst e
      rcases Nat.lt_or_ge l.length cap with h5 | h5
      · exact ins_shift hown hv h h5 (fun e => hvg (by rw [e]; rfl)) hl hB
      · obtain rfl : cap = l.length := by omega
        exact ins_grow hown hv h hl hB
  · obtain rfl : i = l.length := by omega
    exact ins_end hown hv hl hB
end Go.Proofs.Ytiimoaplhhnklaa
