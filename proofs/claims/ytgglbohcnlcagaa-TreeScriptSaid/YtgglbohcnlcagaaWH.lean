/- One step of a script: it answers 'true', and the world of the script goes on. -/
import Derived.Test.YtgglbohcnlcagaaWG
import Derived.Test.YtgglbohcnlcagaaVC
import Derived.Test.YtgglbohcnlcagaaReg3
namespace Go.Proofs.Ytgglbohcnlcagaa
open Go.RowKit
set_option maxHeartbeats 2000000
set_option maxRecDepth 100000
set_option linter.unusedSimpArgs false
set_option linter.unusedVariables false
theorem en_Tdoes : Enters Try.prog 51 := ⟨_, Try.func51, by kernel_rfl, rfl⟩
attribute [local go_sem ↓] neq_map_same

abbrev opV (p : POp) : Value := .agg #[.int .i64 p.kind, .int .i64 p.tree, .int .i64 p.i, .int .i64 p.j, .int .i64 p.v, .string p.key, .int .u64 p.s.1, .int .u64 p.s.2]
def DoesPost (B : Nat) (w : World) (wb : Nat) (l : List Pr) (w' : World) : Prop :=
  ∃ va' vb' l', Wd B w' wb va' vb' l' ∧ (∀ n, (∀ q ∈ l, q.T.size ≤ n) → ∀ q ∈ l', q.T.size ≤ n + 1) ∧ (∀ w0 : World, w0.heap.size ≤ B → Ext w0 w → Ext w0 w')
theorem does_same {B : Nat} {w w' : World} {wb : Nat} {va vb : Value} {l : List Pr} (h : Wd B w wb va vb l) (hx : Ext w w') : DoesPost B w wb l w' :=
  ⟨va, vb, l, h.ext hx, fun n hn q hq => Nat.le_succ_of_le (hn q hq), fun w0 _ h0 => Ext.trans _ _ _ h0 hx⟩
theorem DoesPost.ext {B : Nat} {w F F' : World} {wb : Nat} {l : List Pr} (h : DoesPost B w wb l F) (hx : Ext F F') : DoesPost B w wb l F' := by
  obtain ⟨va, vb, l', h1, h2, h3⟩ := h
  exact ⟨va, vb, l', h1.ext hx, h2, fun w0 hw h0 => Ext.trans _ _ _ (h3 w0 hw h0) hx⟩
theorem does_put {B : Nat} {w w0 w1 w2 : World} {wb : Nat} {va vb : Value} {l : List Pr} (h : Wd B w wb va vb l) (h0 : Ext w w0) {k : Nat} (hk : k < l.length) {key : ByteArray} {v : Int} {s : Int × Int} (hs : InM s) (hz : l[k].T.size < 4398046511104)
    (hx1 : Xl [l[k].ta] w0 w1) (hm : MTree w1 l[k].ta (l[k].T.put key v s)) (hx2 : Xl [l[k].rb] w1 w2) (hr : RTree w2 l[k].rb (ins key v s l[k].T.rows)) (hg : ∃ g, w1.heap.size ≤ g ∧ RowsIn w2 l[k].rb g) : DoesPost B w wb l w2 := by
  obtain ⟨g, hg, hi⟩ := hg
  have hkm := List.getElem_mem hk
  have hgd := (h.at_ _ hkm).gd
  have hbs := h.bs _ hkm
  rw [← Tr.put_rows key v s _ hgd.srt] at hr
  refine ⟨va, vb, _, (h.ext h0).put hk hx1 hm hx2 hr hg hi (good_put hgd hs hz), fun n hn q hq => ?_, fun w' hw' hx' => ?_⟩
  · rcases List.mem_or_eq_of_mem_set hq with hq | rfl
    · exact Nat.le_succ_of_le (hn q hq)
    · have := Tr.put_size key v s l[k].T
      have := hn _ hkm
      show (l[k].T.put key v s).size ≤ n + 1
      omega
  · have e1 := Xl.ext (Ext.trans _ _ _ hx' h0) hx1 (by simp; omega)
    exact Xl.ext e1 hx2 (by simp; omega)
theorem eql_map_same (w : World) (b c : Int) : (binOp .eql 62 (.agg #[.int .u64 b, .int .u64 c]) (.agg #[.int .u64 b, .int .u64 c])).run Try.prog w = .ok (.bool true) w := by
  rw [eql_map]; simp
attribute [local go_sem ↓] eql_map_same
theorem pT_info : ∃ i z, Try.prog.info? 58 = some i ∧ i.size = 1 ∧ i.bytes = 8 ∧ i.zero = some z ∧ z.cells.size = 1 := ⟨_, _, rfl, rfl, rfl, rfl, rfl⟩
theorem pR_info : ∃ i z, Try.prog.info? 101 = some i ∧ i.size = 1 ∧ i.bytes = 8 ∧ i.zero = some z ∧ z.cells.size = 1 := ⟨_, _, rfl, rfl, rfl, rfl, rfl⟩
theorem append_ptr {w : World} {B x b c : Nat} {v : Value} {l : List Nat} {ty e : TypeId} (hu : Try.prog.underlying ty = some (.slice e)) (hinfo : ∃ i z, Try.prog.info? e = some i ∧ i.size = 1 ∧ i.bytes = 8 ∧ i.zero = some z ∧ z.cells.size = 1)
    (hown : OwnP w B e v l) (hc : w.cell? ⟨b, 0, none⟩ = some (.pointer (some ⟨x, 0, none⟩))) (hl : l.length + 1 ≤ 1000) (hB : B ≤ w.heap.size) :
    ∃ v' w', (Builtin.append_ #[ty, ty] ty #[v, .slice (some ⟨b, 0, none⟩) 1 c]).run Try.prog w = .ok v' w' ∧ OwnP w' B e v' (l ++ [x]) ∧ w.grownBy w' v.ownBlock ∧ (v'.ownBlock = v.ownBlock ∨ v'.ownBlock = some w.heap.size) := by
  obtain ⟨i, z, hinf, hs, hby, hz, hcc⟩ := hinfo
  obtain ⟨v', w', h1, h2, h3, h4, h5⟩ := run_append_own_at (P := Try.prog) w B ty ty e i z 1 8 hu hinf hz hs hby hcc (by omega) v l.length (ptrs l) hown ⟨b, 0, none⟩ 1 c [.pointer (some ⟨x, 0, none⟩)] rfl
    (fun j u hj => by
      rw [radd_flat, Nat.zero_add]
      rcases j with _ | j
      · simp at hj; subst hj; exact hc
      · simp at hj)
    (by intro u hu; simp at hu; subst hu; rfl) (by unfold maxLen; omega) (by omega) hB
  refine ⟨v', w', h1, ?_, h3, h5⟩
  unfold OwnP
  rw [List.length_append, show ptrs (l ++ [x]) = ptrs l ++ [.pointer (some ⟨x, 0, none⟩)] by simp [ptrs]]
  exact h2
theorem mclone {w : World} {ta : Nat} {T : T1} (h : MTree w ta T) : Calls Try.prog 62 #[.pointer (some ⟨ta, 0, none⟩)] w fun e w' => ∃ tb', e = .returned (.pointer (some ⟨tb', 0, none⟩)) ∧ w.heap.size ≤ tb' ∧ MTree w' tb' T ∧ Ext w w' := by
  obtain ⟨pv, h1, h2⟩ := h.tr
  obtain ⟨pa, rfl, -⟩ := h2.ptr
  refine (clone1_any h1).mono ?_
  rintro e w' ⟨c, rfl, hc, hT, hx⟩
  exact ⟨c, rfl, hc, ⟨_, hT, h2.xt (Xt.of hx)⟩, hx⟩
theorem Xl.mono {L L' : List Nat} {w w' : World} (h : Xl L w w') (hL : ∀ k ∈ L, k ∈ L') : Xl L' w w' := ⟨h.os, h.tape, h.output, h.size, fun k hk hn => h.block k hk fun e => hn (hL k e)⟩
theorem Wd.ab {B : Nat} {w : World} {wb ga gb na nb ca cb : Nat} {l : List Pr} (h : Wd B w wb (.slice (some ⟨ga, 0, none⟩) na ca) (.slice (some ⟨gb, 0, none⟩) nb cb) l) : ga ≠ gb := by
  obtain ⟨g1, c1, e1, -, -, h1⟩ := h.oa0
  obtain ⟨g2, c2, e2, -, -, h2⟩ := h.ob0
  cases e1
  cases e2
  have h3 := h1 0 h.n1
  have h4 := h2 0 h.n1
  have h5 := h.cross (List.getElem_mem h.n1) (List.getElem_mem h.n1)
  rintro rfl
  rw [h3] at h4
  simp only [Option.some.injEq, Value.pointer.injEq, Addr.mk.injEq, and_true] at h4
  exact h5 h4
attribute [-go_sem] Builtin.append_
theorem does_any {B : Nat} {w : World} {wb : Nat} {va vb : Value} {l : List Pr} (h : Wd B w wb va vb l) (p : POp) (hp : OpOK p) (hsz : ∀ q ∈ l, q.T.size + 1 ≤ 3000000000000) :
    Calls Try.prog 51 #[.pointer (some ⟨wb, 0, none⟩), opV p] w fun e w' => e = .returned (.bool true) ∧ DoesPost B w wb l w' := by
  have H := hid_mk h
  have HPO := hid_mk hp
  have HSZ := hid_mk hsz
  obtain ⟨n, hn⟩ : ∃ n, l.length = n := ⟨_, rfl⟩
  have HN := hid_mk hn
  have hnb : 1 ≤ n ∧ n ≤ 4 := by rw [← hn]; exact ⟨h.n1, h.n4⟩
  obtain ⟨hn1, hn4⟩ := hnb
  obtain ⟨k, hk⟩ : ∃ k : Nat, am p.tree (n : Int) = (k : Int) := by
    refine ⟨(p.tree % (n : Int)).toNat, ?_⟩
    have := Int.emod_nonneg p.tree (show (n : Int) ≠ 0 by omega)
    unfold am
    rw [if_neg (by omega)]
    omega
  have hkn : k < n := by
    have := Int.emod_lt_of_pos p.tree (show (0 : Int) < (n : Int) by omega)
    unfold am at hk
    rw [if_neg (by omega)] at hk
    omega
  have HK := hid_mk hk
  have hkl : k < l.length := by rw [hn]; exact hkn
  obtain ⟨κ, hκ⟩ : ∃ κ, am p.kind 6 = κ := ⟨_, rfl⟩
  have hκ6 : κ = 0 ∨ κ = 1 ∨ κ = 2 ∨ κ = 3 ∨ κ = 4 ∨ κ = 5 := by
    have h1 := Int.emod_nonneg p.kind (show (6 : Int) ≠ 0 by omega)
    have h2 := Int.emod_lt_of_pos p.kind (show (0 : Int) < 6 by omega)
    unfold am at hκ
    rw [if_neg (by omega)] at hκ
    omega
  have HKA := hid_mk hκ
  have HK6 := hid_mk hκ6
  obtain ⟨ga, ca, rfl, hca, -, hga⟩ := h.oa0
  obtain ⟨gb, cb, rfl, hcb, -, hgb⟩ := h.ob0
  rw [hn] at H hca hcb
  have hgak := hga k hkl
  have hgbk := hgb k hkl
  have HSK := hid_mk (hsz _ (List.getElem_mem hkl))
  have HPK := hid_mk (h.at_ _ (List.getElem_mem hkl))
  have HTAB := hid_mk (h.own_ta (List.getElem_mem hkl)).2.2.2.2.1
  have HTL := hid_mk (h.lt.2.2.2 _ (List.getElem_mem hkl))
  obtain ⟨pk, hpk⟩ : ∃ pk, l[k] = pk := ⟨_, rfl⟩
  rw [hpk] at hgak hgbk HSK HPK HTAB HTL
  have HKP := hid_mk hpk
  have HKL := hid_mk hkl
  have hca0 := H.out.ca
  have hcb0 := H.out.cb
  have hwbl := cell_lt hca0
  have hgal := cell_lt hgak
  have hgbl := cell_lt hgbk
  clear h hp hsz hn hk hκ hκ6 hga hgb hpk
  go_enter Try.func51, Try.ntmps51
  go_wp2_with fail
  refine gen_code (fun W1 => OpAt W1 w.heap.size 0 p ∧ Ext w W1) ⟨⟨by go_simp, by go_simp, by go_simp, by go_simp, by go_simp, by go_simp, by go_simp, by go_simp⟩, by (repeat (first | exact Ext.refl _ | apply Ext.drew_left | apply Ext.drew | apply Ext.alloc))⟩ ?_
  rintro W1 ⟨ho, hx⟩
  have HOP := hid_mk ho
  have HX := hid_mk hx
  obtain ⟨o0, o1, o2, o3, o4, o5, o6, o7⟩ := ho
  simp only [Nat.zero_add] at o0 o1 o2 o3 o4 o5 o6 o7
  have hol := cell_lt o0
  replace hca0 := cell_ext hx hca0
  replace hcb0 := cell_ext hx hcb0
  replace hgak := cell_ext hx hgak
  replace hgbk := cell_ext hx hgbk
  replace hwbl := cell_lt hca0
  replace hgal := cell_lt hgak
  replace hgbl := cell_lt hgbk
  clear hx
  have hk0 : (0 : Int) ≤ (k : Int) := by omega
  have hkn' : (k : Int) < (n : Int) := by omega
  refine wp_region_held_below (fun _ => true) (.quiet 0 (.quiet 1 (.quiet 2 (.quiet 3 (.quiet 4 (.quiet 5 (.quiet 6 (.quiet 7 (.quiet 8 .done))))))))) (by kernel_rfl) (by kernel_rfl) (by intro c a w d v h; cases d <;> exact h) (fun ops HO => ?_)
  refine plan_read _ (hi_of HO rfl) rfl (fun w' hE => by (repeat (with_reducible replace hE := Ext.unD hE)); have hcE := hE.hc; clear hE; go_simp; rfl) ?_
  simp only [Act.put, List.setIfInBounds_toArray, List.set_cons_succ, List.set_cons_zero]
  refine plan_read _ (hi_of HO rfl) rfl (fun w' hE => by (repeat (with_reducible replace hE := Ext.unD hE)); have hcE := hE.hc; clear hE; go_simp; rfl) ?_
  simp only [Act.put, List.setIfInBounds_toArray, List.set_cons_succ, List.set_cons_zero]
  refine plan_read _ (hi_of HO rfl) rfl (fun w' hE => by (repeat (with_reducible replace hE := Ext.unD hE)); have hcE := hE.hc; clear hE; go_simp; rfl) ?_
  simp only [Act.put, List.setIfInBounds_toArray, List.set_cons_succ, List.set_cons_zero]
  refine plan_read _ (hi_of HO rfl) rfl (fun w' hE => by (repeat (with_reducible replace hE := Ext.unD hE)); have hcE := hE.hc; clear hE; go_simp; rfl) ?_
  simp only [Act.put, List.setIfInBounds_toArray, List.set_cons_succ, List.set_cons_zero]
  refine plan_read _ (hi_of HO rfl) rfl (fun w' hE => by (repeat (with_reducible replace hE := Ext.unD hE)); have hcE := hE.hc; clear hE; go_simp; rfl) ?_
  simp only [Act.put, List.setIfInBounds_toArray, List.set_cons_succ, List.set_cons_zero]
  refine plan_read _ (hi_of HO rfl) rfl (fun w' hE => by (repeat (with_reducible replace hE := Ext.unD hE)); have hcE := hE.hc; clear hE; go_simp; rfl) ?_
  simp only [Act.put, List.setIfInBounds_toArray, List.set_cons_succ, List.set_cons_zero]
  refine plan_read _ (hi_of HO rfl) rfl (fun w' hE => by (repeat (with_reducible replace hE := Ext.unD hE)); have hcE := hE.hc; clear hE; go_simp; rfl) ?_
  simp only [Act.put, List.setIfInBounds_toArray, List.set_cons_succ, List.set_cons_zero]
  refine plan_pure _ en_Tamong (hi_of HO rfl) rfl rfl (by go_simp; rfl) (fun w' hE => by exact (among_any p.tree (n : Int) HPO.out.tree (by omega) _)) ?_
  simp only [Act.put, List.setIfInBounds_toArray, List.set_cons_succ, List.set_cons_zero]
  refine plan_read _ (hi_of HO rfl) rfl (fun w' hE => by (repeat (with_reducible replace hE := Ext.unD hE)); have hcE := hE.hc; clear hE; go_simp; rfl) ?_
  simp only [Act.put, List.setIfInBounds_toArray, List.set_cons_succ, List.set_cons_zero]
  refine plan_done ?fin101
  rw [HK.out]
  have hkc : k < n := hkn
  go_wp2_with fail
  refine wp_region_held_below (fun _ => true) (.quiet 0 (.quiet 1 (.quiet 2 (.quiet 3 (.quiet 4 (.quiet 5 (.quiet 6 (.quiet 7 (.quiet 8 (.quiet 9 (.quiet 10 (.quiet 11 (.quiet 12 (.quiet 13 (.quiet 14 (.quiet 15 .done)))))))))))))))) (by kernel_rfl) (by kernel_rfl) (by intro c a w d v h; cases d <;> exact h) (fun ops HO => ?_)
  refine plan_read _ (hi_of HO rfl) rfl (fun w' hE => by (repeat (with_reducible replace hE := Ext.unD hE)); have hcE := hE.hc; clear hE; go_simp; rfl) ?_
  simp only [Act.put, List.setIfInBounds_toArray, List.set_cons_succ, List.set_cons_zero]
  refine plan_read _ (hi_of HO rfl) rfl (fun w' hE => by (repeat (with_reducible replace hE := Ext.unD hE)); have hcE := hE.hc; clear hE; go_simp; rfl) ?_
  simp only [Act.put, List.setIfInBounds_toArray, List.set_cons_succ, List.set_cons_zero]
  refine plan_read _ (hi_of HO rfl) rfl (fun w' hE => by (repeat (with_reducible replace hE := Ext.unD hE)); have hcE := hE.hc; clear hE; go_simp; rfl) ?_
  simp only [Act.put, List.setIfInBounds_toArray, List.set_cons_succ, List.set_cons_zero]
  refine plan_read _ (hi_of HO rfl) rfl (fun w' hE => by (repeat (with_reducible replace hE := Ext.unD hE)); have hcE := hE.hc; clear hE; go_simp; rfl) ?_
  simp only [Act.put, List.setIfInBounds_toArray, List.set_cons_succ, List.set_cons_zero]
  refine plan_read _ (hi_of HO rfl) rfl (fun w' hE => by (repeat (with_reducible replace hE := Ext.unD hE)); have hcE := hE.hc; clear hE; go_simp; rfl) ?_
  simp only [Act.put, List.setIfInBounds_toArray, List.set_cons_succ, List.set_cons_zero]
  refine plan_read _ (hi_of HO rfl) rfl (fun w' hE => by (repeat (with_reducible replace hE := Ext.unD hE)); have hcE := hE.hc; clear hE; go_simp; rfl) ?_
  simp only [Act.put, List.setIfInBounds_toArray, List.set_cons_succ, List.set_cons_zero]
  refine plan_read _ (hi_of HO rfl) rfl (fun w' hE => by (repeat (with_reducible replace hE := Ext.unD hE)); have hcE := hE.hc; clear hE; go_simp; rfl) ?_
  simp only [Act.put, List.setIfInBounds_toArray, List.set_cons_succ, List.set_cons_zero]
  refine plan_read _ (hi_of HO rfl) rfl (fun w' hE => by (repeat (with_reducible replace hE := Ext.unD hE)); have hcE := hE.hc; clear hE; go_simp; rfl) ?_
  simp only [Act.put, List.setIfInBounds_toArray, List.set_cons_succ, List.set_cons_zero]
  refine plan_read _ (hi_of HO rfl) rfl (fun w' hE => by (repeat (with_reducible replace hE := Ext.unD hE)); have hcE := hE.hc; clear hE; go_simp; rfl) ?_
  simp only [Act.put, List.setIfInBounds_toArray, List.set_cons_succ, List.set_cons_zero]
  refine plan_read _ (hi_of HO rfl) rfl (fun w' hE => by (repeat (with_reducible replace hE := Ext.unD hE)); have hcE := hE.hc; clear hE; go_simp; rfl) ?_
  simp only [Act.put, List.setIfInBounds_toArray, List.set_cons_succ, List.set_cons_zero]
  refine plan_read _ (hi_of HO rfl) rfl (fun w' hE => by (repeat (with_reducible replace hE := Ext.unD hE)); have hcE := hE.hc; clear hE; go_simp; rfl) ?_
  simp only [Act.put, List.setIfInBounds_toArray, List.set_cons_succ, List.set_cons_zero]
  refine plan_read _ (hi_of HO rfl) rfl (fun w' hE => by (repeat (with_reducible replace hE := Ext.unD hE)); have hcE := hE.hc; clear hE; go_simp; rfl) ?_
  simp only [Act.put, List.setIfInBounds_toArray, List.set_cons_succ, List.set_cons_zero]
  refine plan_read _ (hi_of HO rfl) rfl (fun w' hE => by (repeat (with_reducible replace hE := Ext.unD hE)); have hcE := hE.hc; clear hE; go_simp; rfl) ?_
  simp only [Act.put, List.setIfInBounds_toArray, List.set_cons_succ, List.set_cons_zero]
  refine plan_read _ (hi_of HO rfl) rfl (fun w' hE => by (repeat (with_reducible replace hE := Ext.unD hE)); have hcE := hE.hc; clear hE; go_simp; rfl) ?_
  simp only [Act.put, List.setIfInBounds_toArray, List.set_cons_succ, List.set_cons_zero]
  refine plan_read _ (hi_of HO rfl) rfl (fun w' hE => by (repeat (with_reducible replace hE := Ext.unD hE)); have hcE := hE.hc; clear hE; go_simp; rfl) ?_
  simp only [Act.put, List.setIfInBounds_toArray, List.set_cons_succ, List.set_cons_zero]
  refine plan_read _ (hi_of HO rfl) rfl (fun w' hE => by (repeat (with_reducible replace hE := Ext.unD hE)); have hcE := hE.hc; clear hE; go_simp; rfl) ?_
  simp only [Act.put, List.setIfInBounds_toArray, List.set_cons_succ, List.set_cons_zero]
  refine plan_done ?fin102
  go_wp2_with fail
  refine (among_any p.kind 6 HPO.out.kind (by omega) _).mono ?_
  rintro e w5 ⟨rfl, rfl⟩
  rw [HKA.out]
  refine gen_k (fun W5 => OpAt W5 w.heap.size 0 p ∧ Ext w W5) ⟨HOP.out.xt (Xt.of (by (repeat (first | exact Ext.refl _ | apply Ext.drew_left | apply Ext.drew | apply Ext.alloc))) : Xt none _ _) (by simp), Ext.trans _ _ _ HX.out (by (repeat (first | exact Ext.refl _ | apply Ext.drew_left | apply Ext.drew | apply Ext.alloc)))⟩ ?_
  rintro W5 ⟨ho, hx5⟩
  replace HX := hid_mk hx5
  replace HOP := hid_mk ho
  have HH := hid_mk (H.out.ext hx5)
  have HP := hid_mk (HPK.out.ext hx5)
  clear o0 o1 o2 o3 o4 o5 o6 o7 hol hca0 hcb0 hgak hgbk hwbl hgal hgbl
  obtain ⟨o0, o1, o2, o3, o4, o5, o6, o7⟩ := ho
  simp only [Nat.zero_add] at o0 o1 o2 o3 o4 o5 o6 o7
  have hol := cell_lt o0
  clear hx5 hk0 hkn' hkc hca hcb
  rcases HK6.out with rfl | rfl | rfl | rfl | rfl | rfl
  · go_wp2_with fail
    refine (mput p.key p.v p.s HP.out.mt (by have := HSK.out; omega)).mono ?_
    rintro e w6 ⟨rfl, hT6, hx6⟩
    have hrt6 := HP.out.rt.keep HP.out.ri hx6 (Ne.symm HTAB.out) (fun hp e => by
      have h1 := (HH.out.gs _ (List.getElem_mem HKL.out)); rw [HKP.out] at h1
      have h2 := (h1 hp).2.2.2 _ (List.getElem_mem HKL.out); rw [HKP.out] at h2
      exact h2.1 e)
    have HT6 := hid_mk hT6
    have HX6 := hid_mk hx6
    have HR6 := hid_mk hrt6.1
    have hop6 := HOP.out.xt hx6.xt1 (fun e => by have := HTL.out; simp only [Option.some.injEq] at e; omega)
    clear o0 o1 o2 o3 o4 o5 o6 o7 hol hT6 hx6 hrt6
    obtain ⟨o0, o1, o2, o3, o4, o5, o6, o7⟩ := hop6
    simp only [Nat.zero_add] at o0 o1 o2 o3 o4 o5 o6 o7
    have hol := cell_lt o0
    have HGE := hid_mk (Tr.get_rows p.key pk.T HP.out.gd.srt)
    rw [HGE.out]
    obtain ⟨g1, hg1⟩ : ∃ g, ((fnd p.key pk.T.rows).map (·.2.1)).getD 0 = g := ⟨_, rfl⟩
    obtain ⟨g2, hg2⟩ : ∃ g, (fnd p.key pk.T.rows).isSome = g := ⟨_, rfl⟩
    rw [Option.isSome_map, hg2, hg1]
    have HG := hid_mk (And.intro hg1 hg2)
    clear hg1 hg2
    go_wp2_with fail
    refine (rput_any p.key p.v p.s HR6.out HP.out.gd.srt (by rw [Tr.rows_len]; have := HSK.out; omega)).mono ?_
    rintro e w7 ⟨rfl, hR7, hg7, hx7⟩
    have hdp := does_put H.out HX.out HKL.out (key := p.key) (v := p.v) HPO.out.s (by rw [HKP.out]; have := HSK.out; omega) (by rw [HKP.out]; exact HX6.out) (by rw [HKP.out]; exact HT6.out) (by rw [HKP.out]; exact hx7) (by rw [HKP.out]; exact hR7) (by rw [HKP.out]; exact hg7)
    rw [HG.out.1, HG.out.2]
    have HDP := hid_mk hdp
    have HM7 := hid_mk (HT6.out.keep hx7 HTAB.out (fun q e => by obtain ⟨⟨sv, h1, ⟨a, c, rfl, -⟩⟩, -⟩ := HR6.out; rw [h1] at e; cases e))
    have HR7 := hid_mk hR7
    have HLEN := hid_mk (show ((ins p.key p.v p.s pk.T.rows).length : Int) = ((pk.T.put p.key p.v p.s).size : Nat) by rw [← Tr.put_rows p.key p.v p.s _ HP.out.gd.srt, Tr.rows_len])
    clear o0 o1 o2 o3 o4 o5 o6 o7 hol hR7 hg7 hx7 hdp
    go_wp2_with fail
    refine (mlen HM7.out).mono ?_
    rintro e w8 ⟨rfl, rfl⟩
    go_wp2_with fail
    refine (rlen_any HR7.out).mono ?_
    rintro e w9 ⟨rfl, rfl⟩
    rw [HLEN.out]
    go_wp2
    go_ret
    exact ⟨rfl, HDP.out⟩
  · go_wp2_with fail
    refine (mget p.key HP.out.mt).mono ?_
    rintro e w6 ⟨rfl, rfl⟩
    have HGE := hid_mk (Tr.get_rows p.key pk.T HP.out.gd.srt)
    rw [HGE.out]
    obtain ⟨g1, hg1⟩ : ∃ g, ((fnd p.key pk.T.rows).map (·.2.1)).getD 0 = g := ⟨_, rfl⟩
    obtain ⟨g2, hg2⟩ : ∃ g, (fnd p.key pk.T.rows).isSome = g := ⟨_, rfl⟩
    rw [Option.isSome_map, hg2, hg1]
    have HG := hid_mk (And.intro hg1 hg2)
    clear hg1 hg2
    go_wp2_with fail
    refine (rget_any p.key HP.out.rt).mono ?_
    rintro e w7 ⟨rfl, hx7⟩
    rw [HG.out.1, HG.out.2]
    have HDP := hid_mk (does_same H.out (Ext.trans _ _ _ HX.out hx7))
    clear hx7 o0 o1 o2 o3 o4 o5 o6 o7 hol
    go_wp2
    go_ret
    exact ⟨rfl, HDP.out⟩
  · have HCN := hid_mk (fun (V : World) (hV : Ext W5 V) => mrank p.key (HP.out.mt.ext hV) HP.out.gd)
    go_wp2_with fail
    refine wp_region_held_below (fun _ => true) (.quiet 0 (.quiet 1 (.quiet 2 (.quiet 3 (.quiet 4 (.quiet 5 (.quiet 6 (.alt 7 (.quiet 8 (.quiet 9 .done)) .stop)))))))) (by kernel_rfl) (by kernel_rfl) (by intro c a w d v h; cases d <;> exact h) (fun ops HO => ?_)
    refine plan_read _ (hi_of HO rfl) rfl (fun w' hE => by (repeat (with_reducible replace hE := Ext.unD hE)); have hcE := hE.hc; clear hE; go_simp; rfl) ?_
    simp only [Act.put, List.setIfInBounds_toArray, List.set_cons_succ, List.set_cons_zero]
    refine plan_read _ (hi_of HO rfl) rfl (fun w' hE => by (repeat (with_reducible replace hE := Ext.unD hE)); have hcE := hE.hc; clear hE; go_simp; rfl) ?_
    simp only [Act.put, List.setIfInBounds_toArray, List.set_cons_succ, List.set_cons_zero]
    refine plan_read _ (hi_of HO rfl) rfl (fun w' hE => by (repeat (with_reducible replace hE := Ext.unD hE)); have hcE := hE.hc; clear hE; go_simp; rfl) ?_
    simp only [Act.put, List.setIfInBounds_toArray, List.set_cons_succ, List.set_cons_zero]
    refine plan_pure _ en_TRank1 (hi_of HO rfl) rfl rfl (by go_simp; rfl) (fun w' hE => by exact (HCN.out _ (Ext.unD hE))) ?_
    simp only [Act.put, List.setIfInBounds_toArray, List.set_cons_succ, List.set_cons_zero]
    refine plan_read _ (hi_of HO rfl) rfl (fun w' hE => by (repeat (with_reducible replace hE := Ext.unD hE)); have hcE := hE.hc; clear hE; go_simp; rfl) ?_
    simp only [Act.put, List.setIfInBounds_toArray, List.set_cons_succ, List.set_cons_zero]
    refine plan_read _ (hi_of HO rfl) rfl (fun w' hE => by (repeat (with_reducible replace hE := Ext.unD hE)); have hcE := hE.hc; clear hE; go_simp; rfl) ?_
    simp only [Act.put, List.setIfInBounds_toArray, List.set_cons_succ, List.set_cons_zero]
    refine plan_read _ (hi_of HO rfl) rfl (fun w' hE => by (repeat (with_reducible replace hE := Ext.unD hE)); have hcE := hE.hc; clear hE; go_simp; rfl) ?_
    simp only [Act.put, List.setIfInBounds_toArray, List.set_cons_succ, List.set_cons_zero]
    refine plan_call1 en_RTRank (hi_of HO rfl) rfl rfl (by go_simp; rfl) (by exact (rrank_any p.key (HP.out.rt.ext (by (repeat (first | exact Ext.refl _ | apply Ext.drew_left | apply Ext.drew | apply Ext.alloc)))))) ?_
    rintro e v103 ⟨rfl, hx103⟩
    refine ⟨_, rfl, fun _ => hx103, ?_⟩
    have hy103 := hid_mk (by first | (with_reducible exact Ext.unD hx103) | exact hx103 : Ext _ v103)
    have hc103 := hx103.hc; have hl103 := hx103.hl; have he103 := hx103.hle; have hn103 := hx103.hne; replace hx103 := hid_mk hx103
    simp only [Act.put, List.setIfInBounds_toArray, List.set_cons_succ, List.set_cons_zero]
    have HQZ := hy103
    refine plan_read _ (hi_of HO rfl) rfl (fun w' hE => by have hcE := (Ext.trans _ _ _ (by (repeat (first | exact hx103.out | apply Ext.drew | apply Ext.alloc))) hE).hc; (repeat (with_reducible replace hE := Ext.unD hE)); have hcF := hE.hc; clear hE; go_simp; rfl) ?_
    simp only [Act.put, List.setIfInBounds_toArray, List.set_cons_succ, List.set_cons_zero]
    refine plan_read _ (hi_of HO rfl) rfl (fun w' hE => by have hcE := (Ext.trans _ _ _ (by (repeat (first | exact hx103.out | apply Ext.drew | apply Ext.alloc))) hE).hc; (repeat (with_reducible replace hE := Ext.unD hE)); have hcF := hE.hc; clear hE; go_simp; rfl) ?_
    simp only [Act.put, List.setIfInBounds_toArray, List.set_cons_succ, List.set_cons_zero]
    refine plan_done ?fin104
    have HDP := hid_mk (does_same H.out (Ext.trans _ _ _ HX.out (by first | exact HQZ.out | exact Ext.drew HQZ.out)))
    go_wp2
    go_ret
    exact ⟨rfl, HDP.out⟩
  · go_wp2_with fail
    refine (mat p.i HPO.out.i HP.out.mt HP.out.gd).mono ?_
    rintro e w6 ⟨rfl, hx6⟩
    have HAT := hid_mk (Tr.at_rows pk.T p.i)
    obtain ⟨y, hy⟩ : ∃ y, pk.T.at_ p.i = y := ⟨_, rfl⟩
    have HAY := hid_mk (show (if p.i < 0 then none else (pk.T.rows[p.i.toNat]?).map (fun r => (r.1, r.2.1))) = y by rw [← HAT.out]; exact hy)
    rw [hy]
    have ho6 := HOP.out.xt (Xt.of hx6 : Xt none _ _) (by simp)
    replace HX := hid_mk (Ext.trans _ _ _ HX.out hx6)
    replace HP := hid_mk (HP.out.ext hx6)
    clear o0 o1 o2 o3 o4 o5 o6 o7 hol hx6 hy
    obtain ⟨o0, o1, o2, o3, o4, o5, o6, o7⟩ := ho6
    simp only [Nat.zero_add] at o0 o1 o2 o3 o4 o5 o6 o7
    have hol := cell_lt o0
    simp only [atV1]
    go_wp2_with fail
    refine (rat_any p.i HPO.out.i HP.out.rt).mono ?_
    rintro e w7 ⟨rfl, hx7⟩
    rw [HAY.out]
    simp only [atV1]
    have HDP := hid_mk (does_same H.out (Ext.trans _ _ _ HX.out hx7))
    clear hx7 o0 o1 o2 o3 o4 o5 o6 o7 hol
    go_wp2
    go_ret
    exact ⟨rfl, HDP.out⟩
  · obtain ⟨f1, hf1⟩ : ∃ f, mf pk.T p.i p.j = f := ⟨_, rfl⟩
    have HF := hid_mk (fun (V : World) (hV : Ext W5 V) => (show Calls Try.prog 38 #[.pointer (some ⟨pk.ta, 0, none⟩), .int .i64 p.i, .int .i64 p.j] V fun e w' => e = .returned (.agg #[.int .u64 f1.1, .int .u64 f1.2]) ∧ Ext V w' from by
      have h := mfold p.i p.j HPO.out.i HPO.out.j (HP.out.mt.ext hV) HP.out.gd
      rw [hf1] at h
      exact h))
    have HRF := hid_mk (fun (V : World) (hV : Ext W5 V) => (show Calls Try.prog 99 #[.pointer (some ⟨pk.rb, 0, none⟩), .int .i64 p.i, .int .i64 p.j] V fun e w' => e = .returned (.agg #[.int .u64 f1.1, .int .u64 f1.2]) ∧ Ext V w' from by
      have h := rfold_any p.i p.j HPO.out.i HPO.out.j (HP.out.rt.ext hV) HP.out.gd.inm
      rw [mfL_mf, hf1] at h
      exact h))
    clear hf1
    go_wp2_with fail
    refine wp_region_held_below (fun _ => true) (.quiet 0 (.quiet 1 (.quiet 2 (.quiet 3 (.quiet 4 (.quiet 6 (.quiet 7 (.quiet 8 (.quiet 9 (.quiet 10 (.alt 5 (.alt 11 (.quiet 12 (.quiet 13 .done)) .stop) .stop))))))))))) (by kernel_rfl) (by kernel_rfl) (by intro c a w d v h; cases d <;> exact h) (fun ops HO => ?_)
    refine plan_read _ (hi_of HO rfl) rfl (fun w' hE => by (repeat (with_reducible replace hE := Ext.unD hE)); have hcE := hE.hc; clear hE; go_simp; rfl) ?_
    simp only [Act.put, List.setIfInBounds_toArray, List.set_cons_succ, List.set_cons_zero]
    refine plan_read _ (hi_of HO rfl) rfl (fun w' hE => by (repeat (with_reducible replace hE := Ext.unD hE)); have hcE := hE.hc; clear hE; go_simp; rfl) ?_
    simp only [Act.put, List.setIfInBounds_toArray, List.set_cons_succ, List.set_cons_zero]
    refine plan_read _ (hi_of HO rfl) rfl (fun w' hE => by (repeat (with_reducible replace hE := Ext.unD hE)); have hcE := hE.hc; clear hE; go_simp; rfl) ?_
    simp only [Act.put, List.setIfInBounds_toArray, List.set_cons_succ, List.set_cons_zero]
    refine plan_read _ (hi_of HO rfl) rfl (fun w' hE => by (repeat (with_reducible replace hE := Ext.unD hE)); have hcE := hE.hc; clear hE; go_simp; rfl) ?_
    simp only [Act.put, List.setIfInBounds_toArray, List.set_cons_succ, List.set_cons_zero]
    refine plan_read _ (hi_of HO rfl) rfl (fun w' hE => by (repeat (with_reducible replace hE := Ext.unD hE)); have hcE := hE.hc; clear hE; go_simp; rfl) ?_
    simp only [Act.put, List.setIfInBounds_toArray, List.set_cons_succ, List.set_cons_zero]
    refine plan_read _ (hi_of HO rfl) rfl (fun w' hE => by (repeat (with_reducible replace hE := Ext.unD hE)); have hcE := hE.hc; clear hE; go_simp; rfl) ?_
    simp only [Act.put, List.setIfInBounds_toArray, List.set_cons_succ, List.set_cons_zero]
    refine plan_read _ (hi_of HO rfl) rfl (fun w' hE => by (repeat (with_reducible replace hE := Ext.unD hE)); have hcE := hE.hc; clear hE; go_simp; rfl) ?_
    simp only [Act.put, List.setIfInBounds_toArray, List.set_cons_succ, List.set_cons_zero]
    refine plan_read _ (hi_of HO rfl) rfl (fun w' hE => by (repeat (with_reducible replace hE := Ext.unD hE)); have hcE := hE.hc; clear hE; go_simp; rfl) ?_
    simp only [Act.put, List.setIfInBounds_toArray, List.set_cons_succ, List.set_cons_zero]
    refine plan_read _ (hi_of HO rfl) rfl (fun w' hE => by (repeat (with_reducible replace hE := Ext.unD hE)); have hcE := hE.hc; clear hE; go_simp; rfl) ?_
    simp only [Act.put, List.setIfInBounds_toArray, List.set_cons_succ, List.set_cons_zero]
    refine plan_read _ (hi_of HO rfl) rfl (fun w' hE => by (repeat (with_reducible replace hE := Ext.unD hE)); have hcE := hE.hc; clear hE; go_simp; rfl) ?_
    simp only [Act.put, List.setIfInBounds_toArray, List.set_cons_succ, List.set_cons_zero]
    refine plan_call1 en_TFold1 (hi_of HO rfl) rfl rfl (by go_simp; rfl) (by exact (HF.out _ (by (repeat (first | exact Ext.refl _ | apply Ext.drew_left | apply Ext.drew | apply Ext.alloc))))) ?_
    rintro e v105 ⟨rfl, hx105⟩
    refine ⟨_, rfl, fun _ => hx105, ?_⟩
    have hy105 := hid_mk (by first | (with_reducible exact Ext.unD hx105) | exact hx105 : Ext _ v105)
    have hc105 := hx105.hc; have hl105 := hx105.hl; have he105 := hx105.hle; have hn105 := hx105.hne; replace hx105 := hid_mk hx105
    simp only [Act.put, List.setIfInBounds_toArray, List.set_cons_succ, List.set_cons_zero]
    have HQZ := hx105
    refine plan_call1 en_RTFold (hi_of HO rfl) rfl rfl (by go_simp; rfl) (by exact (HRF.out _ (by first | exact HQZ.out | exact Ext.unD HQZ.out | ((repeat (first | exact Ext.refl _ | apply Ext.drew_left | apply Ext.drew | apply Ext.alloc)))))) ?_
    rintro e v106 ⟨rfl, hx106⟩
    refine ⟨_, rfl, fun _ => hx106, ?_⟩
    have hy106 := hid_mk (by first | (with_reducible exact Ext.unD hx106) | exact hx106 : Ext _ v106)
    replace hx106 := Ext.trans _ _ _ (by (repeat (first | exact hx105.out | apply Ext.drew | apply Ext.alloc))) hx106
    clear hc105 hl105 he105 hn105
    have hc106 := hx106.hc; have hl106 := hx106.hl; have he106 := hx106.hle; have hn106 := hx106.hne; replace hx106 := hid_mk hx106
    simp only [Act.put, List.setIfInBounds_toArray, List.set_cons_succ, List.set_cons_zero]
    have HQZ := hx106
    refine plan_read _ (hi_of HO rfl) rfl (fun w' hE => by have hcE := (Ext.trans _ _ _ (by (repeat (first | exact hx106.out | apply Ext.drew | apply Ext.alloc))) hE).hc; (repeat (with_reducible replace hE := Ext.unD hE)); have hcF := hE.hc; clear hE; go_simp; rfl) ?_
    simp only [Act.put, List.setIfInBounds_toArray, List.set_cons_succ, List.set_cons_zero]
    refine plan_read _ (hi_of HO rfl) rfl (fun w' hE => by have hcE := (Ext.trans _ _ _ (by (repeat (first | exact hx106.out | apply Ext.drew | apply Ext.alloc))) hE).hc; (repeat (with_reducible replace hE := Ext.unD hE)); have hcF := hE.hc; clear hE; go_simp; rfl) ?_
    simp only [Act.put, List.setIfInBounds_toArray, List.set_cons_succ, List.set_cons_zero]
    refine plan_done ?fin107
    have HDP := hid_mk (does_same H.out (Ext.trans _ _ _ HX.out (by first | exact HQZ.out | exact Ext.unD HQZ.out | exact Ext.drew HQZ.out)))
    go_wp2
    go_ret
    exact ⟨rfl, HDP.out⟩
  · by_cases h4 : n = 4
    · subst h4
      have HDP := hid_mk (does_same H.out HX.out)
      have hca0 := HH.out.ca
      have hwbl := cell_lt hca0
      go_wp2
      go_ret
      exact ⟨rfl, HDP.out⟩
    · have hn3 : n < 4 := by omega
      have hn3' : (n : Int) < 4 := by omega
      have hca0 := HH.out.ca
      have hcb0 := HH.out.cb
      have hwbl := cell_lt hca0
      have hloa : OwnP W5 B 58 (.slice (some ⟨ga, 0, none⟩) n ca) (l.map Pr.ta) := HH.out.oa
      have hlob : OwnP W5 B 101 (.slice (some ⟨gb, 0, none⟩) n cb) (l.map Pr.rb) := HH.out.ob
      have HOA := hid_mk hloa
      have HOB := hid_mk hlob
      have HAB := hid_mk (show wb ∉ [ga, gb] by
        have h1 := HH.out.own_ta (List.getElem_mem HKL.out)
        intro e
        simp only [List.mem_cons, List.not_mem_nil, or_false] at e
        rcases e with rfl | rfl
        · exact h1.2.2.2.2.2.2.1 rfl
        · exact h1.2.2.2.2.2.2.2 rfl)
      have HGL := hid_mk (show ga < W5.heap.size ∧ gb < W5.heap.size ∧ B ≤ W5.heap.size from ⟨HH.out.lt.2.1 _ rfl, HH.out.lt.2.2.1 _ rfl, HH.out.bl⟩)
      have HLT := hid_mk (show pk.ta < W5.heap.size ∧ pk.rb < W5.heap.size by have := HX.out.below.size; have := HTL.out; omega)
      have HGS := hid_mk (show pk.rb ≠ ga ∧ (0 < pk.T.rows.length → pk.g ≠ ga) from by
        have h1 := HH.out.own_ta (List.getElem_mem HKL.out)
        have h2 := HH.out.gs _ (List.getElem_mem HKL.out)
        rw [HKP.out] at h1 h2
        exact ⟨fun e => h1.2.1 (by rw [e]; rfl), fun hp e => (h2 hp).2.1 (by rw [e]; rfl)⟩)
      have HGC := hid_mk (show ∃ x, W5.cell? ⟨ga, 0, none⟩ = some (.pointer (some ⟨x, 0, none⟩)) by
        obtain ⟨g9, c9, e9, -, -, h9⟩ := HH.out.oa0
        cases e9
        exact ⟨_, h9 0 (by have := HH.out.n1; omega)⟩)
      clear hloa hlob o0 o1 o2 o3 o4 o5 o6 o7 hol
      go_wp2_with fail
      refine wp_region_held_planC (Xl [ga,gb]) (fun i => i != 20 && i != 23) (fun i => [0, 1, 2, 3, 4, 6, 10, 11, 12, 14, 18, 19, 21, 22].contains i) (.quiet 0 (.quiet 1 (.quiet 2 (.quiet 3 (.quiet 4 (.quiet 5 (.quiet 6 (.quiet 10 (.quiet 11 (.quiet 12 (.quiet 13 (.quiet 14 (.alt 7 (.alt 8 (.alt 9 (.alt 15 (.alt 16 (.alt 17 (.quiet 18 (.quiet 19 (.alt 20 (.quiet 21 (.quiet 22 (.alt 23 .done .stop))) .stop))) .stop) .stop) .stop) .stop) .stop) .stop))))))))))))) (by kernel_rfl) (by kernel_rfl) Xl.refl Xl.trans (by intro c a w d v h; cases d <;> exact h) (fun ops HO => ?_)
      refine planC_calm _ (hi_of HO rfl) rfl (fun w' => by go_simp; rfl) ?_
      simp only [Act.put, List.setIfInBounds_toArray, List.set_cons_succ, List.set_cons_zero]
      refine planC_calm _ (hi_of HO rfl) rfl (fun w' => by go_simp; rfl) ?_
      simp only [Act.put, List.setIfInBounds_toArray, List.set_cons_succ, List.set_cons_zero]
      refine planC_calm _ (hi_of HO rfl) rfl (fun w' => by go_simp; rfl) ?_
      simp only [Act.put, List.setIfInBounds_toArray, List.set_cons_succ, List.set_cons_zero]
      refine planC_calm _ (hi_of HO rfl) rfl (fun w' => by go_simp; rfl) ?_
      simp only [Act.put, List.setIfInBounds_toArray, List.set_cons_succ, List.set_cons_zero]
      refine planC_calm _ (hi_of HO rfl) rfl (fun w' => by go_simp; rfl) ?_
      simp only [Act.put, List.setIfInBounds_toArray, List.set_cons_succ, List.set_cons_zero]
      refine planC_read _ (hi_of HO rfl) rfl rfl (fun w' hE => by have hcE := hE.cell (k := wb) (o := 0) hwbl HAB.out; clear hE; go_simp; rfl) ?_
      simp only [Act.put, List.setIfInBounds_toArray, List.set_cons_succ, List.set_cons_zero]
      refine planC_calm _ (hi_of HO rfl) rfl (fun w' => by go_simp; rfl) ?_
      simp only [Act.put, List.setIfInBounds_toArray, List.set_cons_succ, List.set_cons_zero]
      refine planC_calm _ (hi_of HO rfl) rfl (fun w' => by go_simp; rfl) ?_
      simp only [Act.put, List.setIfInBounds_toArray, List.set_cons_succ, List.set_cons_zero]
      refine planC_calm _ (hi_of HO rfl) rfl (fun w' => by go_simp; rfl) ?_
      simp only [Act.put, List.setIfInBounds_toArray, List.set_cons_succ, List.set_cons_zero]
      refine planC_calm _ (hi_of HO rfl) rfl (fun w' => by go_simp; rfl) ?_
      simp only [Act.put, List.setIfInBounds_toArray, List.set_cons_succ, List.set_cons_zero]
      refine planC_read _ (hi_of HO rfl) rfl rfl (fun w' hE => by have hcE := hE.cell (k := wb) (o := 1) hwbl HAB.out; clear hE; go_simp; rfl) ?_
      simp only [Act.put, List.setIfInBounds_toArray, List.set_cons_succ, List.set_cons_zero]
      refine planC_calm _ (hi_of HO rfl) rfl (fun w' => by go_simp; rfl) ?_
      simp only [Act.put, List.setIfInBounds_toArray, List.set_cons_succ, List.set_cons_zero]
      refine planC_call1 en_TClone1 (hi_of HO rfl) rfl rfl (by go_simp; rfl) (by exact mclone (HP.out.mt.ext (by (repeat (first | exact Ext.refl _ | apply Ext.drew_left | apply Ext.drew | apply Ext.alloc))))) ?_
      rintro e V7 ⟨ta', rfl, hta, hm7, hx7⟩
      refine ⟨_, rfl, fun _ => Xl.of hx7, ?_⟩
      have HX7 := hid_mk (Ext.unD hx7)
      have HM7 := hid_mk hm7
      have HTA := hid_mk (show W5.heap.size ≤ ta' from hta)
      clear hx7 hm7 hta
      simp only [Act.put, List.setIfInBounds_toArray, List.set_cons_succ, List.set_cons_zero]
      refine planC_loud1 (hi_of HO rfl) rfl ?_
      go_simp
      refine ⟨Xl.of (by (repeat (first | exact Ext.refl _ | apply Ext.drew_left | apply Ext.drew | apply Ext.alloc))), ?_⟩
      have hxA : Ext V7 (V7.alloc (.cells #[.pointer (some ⟨ta', 0, none⟩)] 58)) := by (repeat (first | exact Ext.refl _ | apply Ext.drew_left | apply Ext.drew | apply Ext.alloc))
      have hcA : (V7.alloc (.cells #[.pointer (some ⟨ta', 0, none⟩)] 58)).cell? ⟨V7.heap.size, 0, none⟩ = some (.pointer (some ⟨ta', 0, none⟩)) := new_cell (Ext.refl _) rfl
      generalize V7.alloc (.cells #[.pointer (some ⟨ta', 0, none⟩)] 58) = A at *
      have HXA := hid_mk (Ext.trans _ _ _ HX7.out hxA)
      have HMA := hid_mk (HM7.out.ext hxA)
      obtain ⟨va1, BW, hrun, hoB, hgr, hbl⟩ := append_ptr (ty := 96) Try.underlying96 pT_info (c := 1) (own_ext HOA.out HXA.out) hcA (by rw [List.length_map, HN.out]; omega) (by have := HXA.out.below.size; have := HGL.out; omega)
      have HRUN := hid_mk hrun
      have HGR := hid_mk hgr
      have HOW := hid_mk hoB
      have HBL := hid_mk hbl
      obtain ⟨gA, cA, rfl, -, -, -⟩ := own_ptr_cell hoB (by simp)
      have hlA : (l.map Pr.ta ++ [ta']).length = n + 1 := by rw [List.length_append, List.length_map, HN.out]; rfl
      rw [hlA] at HRUN HOW HBL
      clear hxA hcA hrun hgr hoB hbl hlA
      have hrun := HRUN.out
      refine planC_loud1 (hi_of HO rfl) rfl ?_
      go_simp
      have xB : Xl [ga] A BW := xl_of_grown HGR.out rfl
      refine ⟨xB.mono (by simp), ?_⟩
      have HXB := hid_mk xB
      have hpA := HP.out.ext HXA.out
      have HRB := hid_mk (hpA.rt.keep hpA.ri xB HGS.out.1 HGS.out.2).1
      clear hrun xB hpA
      refine planC_call1 en_RTClone (hi_of HO rfl) rfl rfl (by go_simp; rfl) (by exact rclone_any HRB.out (by rw [Tr.rows_len]; have := HSK.out; omega)) ?_
      rintro e V15 ⟨rb', rfl, hrb, hr15, ⟨g', hg', hi', hlt'⟩, hx15⟩
      refine ⟨_, rfl, fun _ => Xl.of hx15, ?_⟩
      have HX15 := hid_mk hx15
      have HR15 := hid_mk (And.intro hr15 (And.intro hi' hlt'))
      have HRBL := hid_mk (And.intro hrb hg')
      clear hx15 hr15 hrb hg' hi' hlt'
      simp only [Act.put, List.setIfInBounds_toArray, List.set_cons_succ, List.set_cons_zero]
      refine planC_loud1 (hi_of HO rfl) rfl ?_
      go_simp
      refine ⟨Xl.of (by (repeat (first | exact Ext.refl _ | apply Ext.drew_left | apply Ext.drew | apply Ext.alloc))), ?_⟩
      have hxC : Ext V15 (V15.alloc (.cells #[.pointer (some ⟨rb', 0, none⟩)] 101)) := by (repeat (first | exact Ext.refl _ | apply Ext.drew_left | apply Ext.drew | apply Ext.alloc))
      have hcC : (V15.alloc (.cells #[.pointer (some ⟨rb', 0, none⟩)] 101)).cell? ⟨V15.heap.size, 0, none⟩ = some (.pointer (some ⟨rb', 0, none⟩)) := new_cell (Ext.refl _) rfl
      generalize V15.alloc (.cells #[.pointer (some ⟨rb', 0, none⟩)] 101) = C at *
      have HXC := hid_mk (Ext.trans _ _ _ HX15.out hxC)
      have HRC := hid_mk (And.intro (HR15.out.1.ext hxC) (HR15.out.2.1.ext hxC))
      obtain ⟨vb1, D, hrun, hoB, hgr, hbl⟩ := append_ptr (ty := 97) Try.underlying97 pR_info (c := 1) (own_ext (own_xl (own_ext HOB.out HXA.out) HXB.out (fun e => HH.out.ab (by cases e; rfl))) HXC.out) hcC (by rw [List.length_map, HN.out]; omega) (by have := HXC.out.below.size; have := HXB.out.size; have := HXA.out.below.size; have := HGL.out; omega)
      have HRUN2 := hid_mk hrun
      have HGR2 := hid_mk hgr
      have HOW2 := hid_mk hoB
      have HBL2 := hid_mk hbl
      obtain ⟨gB, cB, rfl, -, -, -⟩ := own_ptr_cell hoB (by simp)
      have hlB : (l.map Pr.rb ++ [rb']).length = n + 1 := by rw [List.length_append, List.length_map, HN.out]; rfl
      rw [hlB] at HRUN2 HOW2 HBL2
      clear hxC hcC hrun hgr hoB hbl hlB
      have hrun := HRUN2.out
      refine planC_loud1 (hi_of HO rfl) rfl ?_
      go_simp
      have xD : Xl [gb] C D := xl_of_grown HGR2.out rfl
      refine ⟨xD.mono (by simp), ?_⟩
      have HXD := hid_mk xD
      have hall : Xl [ga, gb] W5 D := Xl.trans _ _ _ (Xl.trans _ _ _ (Xl.trans _ _ _ (Xl.of HXA.out) (HXB.out.mono (by simp))) (Xl.of HXC.out)) (xD.mono (by simp))
      have hd0 := (hall.cell (k := wb) (o := 0) hwbl HAB.out).trans hca0
      have hd1 := (hall.cell (k := wb) (o := 1) hwbl HAB.out).trans hcb0
      have hd2 := (hall.hf (k := wb) (o := 0) hwbl HAB.out).trans HH.out.fa
      have hd3 := (hall.hf (k := wb) (o := 1) hwbl HAB.out).trans HH.out.fb
      have hdl := cell_lt hd0
      clear hrun xD hall
      refine planC_calm _ (hi_of HO rfl) rfl (fun w' => by go_simp; rfl) ?_
      simp only [Act.put, List.setIfInBounds_toArray, List.set_cons_succ, List.set_cons_zero]
      refine planC_calm _ (hi_of HO rfl) rfl (fun w' => by go_simp; rfl) ?_
      simp only [Act.put, List.setIfInBounds_toArray, List.set_cons_succ, List.set_cons_zero]
      refine planC_loud1 (hi_of HO rfl) rfl ?_
      go_simp
      skip
      refine planC_calm _ (hi_of HO rfl) rfl (fun w' => by go_simp; rfl) ?_
      simp only [Act.put, List.setIfInBounds_toArray, List.set_cons_succ, List.set_cons_zero]
      refine planC_calm _ (hi_of HO rfl) rfl (fun w' => by go_simp; rfl) ?_
      simp only [Act.put, List.setIfInBounds_toArray, List.set_cons_succ, List.set_cons_zero]
      refine planC_loud1 (hi_of HO rfl) rfl ?_
      go_simp
      skip
      refine planC_done ?fin108
      have hll : l.length = n := HN.out
      have hW := HH.out.clone (p := ⟨ta', rb', pk.T, g'⟩) (by omega) HXA.out HGR.out HXC.out HGR2.out HOW.out HOW2.out HBL.out HBL2.out HMA.out HRC.out.1 HRC.out.2 HP.out.gd HTA.out HRBL.out.1 HRBL.out.2 HR15.out.2.2
      have hbA : B ≤ ga ∧ B ≤ gb := by
        obtain ⟨g1, c1, e1, -, b1, -⟩ := HH.out.oa0
        obtain ⟨g2, c2, e2, -, b2, -⟩ := HH.out.ob0
        cases e1
        cases e2
        exact ⟨b1, b2⟩
      have hDP : DoesPost B w wb l ((D.setCell ⟨wb, 0, none⟩ (.slice (some ⟨gA, 0, none⟩) (n + 1) cA)).setCell ⟨wb, 1, none⟩ (.slice (some ⟨gB, 0, none⟩) (n + 1) cB)) := by
        refine ⟨_, _, _, hW, fun m hm q hq => ?_, fun w0 hw0 h0 => ?_⟩
        · rcases List.mem_append.1 hq with hq | hq
          · exact Nat.le_succ_of_le (hm q hq)
          · rw [List.mem_singleton.1 hq]
            have := hm _ (List.getElem_mem HKL.out)
            rw [HKP.out] at this
            exact Nat.le_succ_of_le this
        · have e1 := Xl.ext (Ext.trans _ _ _ (Ext.trans _ _ _ h0 HX.out) HXA.out) HXB.out (by simp; omega)
          have e2 := Xl.ext (Ext.trans _ _ _ e1 HXC.out) HXD.out (by simp; omega)
          have := HH.out.bw
          exact ext_set (ext_set e2 (by omega)) (by omega)
      have HDP := hid_mk hDP
      have hcn : ∃ c0, w.cell? ⟨0, 0, none⟩ = c0 := ⟨_, rfl⟩
      refine gen_world (P := Try.prog) (fun F => Wd B F wb (.slice (some ⟨gA, 0, none⟩) (n + 1) cA) (.slice (some ⟨gB, 0, none⟩) (n + 1) cB) (l ++ [⟨ta', rb', pk.T, g'⟩]) ∧ DoesPost B w wb l F) ⟨hW, hDP⟩ ?_
      clear hW hDP HDP hd0 hd1 hd2 hd3 hdl hca0 hcb0 hwbl hcn hbA
      rintro F ⟨hWF, hDF⟩
      have HDF := hid_mk hDF
      have f0 := hWF.ca
      obtain ⟨g1, c1, e1, hc1, -, hg1⟩ := hWF.oa0
      have f1 := hg1 n (by simp; omega)
      rw [List.getElem_append_right (by omega)] at f1
      simp only [hll, Nat.sub_self, List.getElem_cons_zero] at f1
      obtain ⟨rfl, -, rfl⟩ : gA = g1 ∧ n + 1 = (l ++ [(⟨ta', rb', pk.T, g'⟩ : Pr)]).length ∧ cA = c1 := by simpa using e1
      have hwbl := cell_lt f0
      have hgal := cell_lt f1
      clear hWF hDF hg1 e1 hll HH H HPK HP HSK HTL HTAB HLT HGS HGC HOA HOB
      have hn0 : (0 : Int) ≤ (n : Int) := by omega
      have hn5 : (n : Int) < (n : Int) + 1 := by omega
      have hw1 : IntKind.i64.wrap (n : Int) = (n : Int) := wrapN n (by omega)
      go_wp2_with fail
      refine wp_region_held_below (fun _ => true) (.quiet 0 (.quiet 1 (.quiet 2 (.quiet 3 (.quiet 4 (.quiet 5 (.quiet 6 (.quiet 7 (.quiet 8 (.quiet 9 (.quiet 10 (.quiet 11 (.quiet 12 (.quiet 13 .done)))))))))))))) (by kernel_rfl) (by kernel_rfl) (by intro c a w d v h; cases d <;> exact h) (fun ops HO => ?_)
      refine plan_read _ (hi_of HO rfl) rfl (fun w' hE => by (repeat (with_reducible replace hE := Ext.unD hE)); have hcE := hE.hc; clear hE; go_simp; rfl) ?_
      simp only [Act.put, List.setIfInBounds_toArray, List.set_cons_succ, List.set_cons_zero]
      refine plan_read _ (hi_of HO rfl) rfl (fun w' hE => by (repeat (with_reducible replace hE := Ext.unD hE)); have hcE := hE.hc; clear hE; go_simp; rfl) ?_
      simp only [Act.put, List.setIfInBounds_toArray, List.set_cons_succ, List.set_cons_zero]
      refine plan_read _ (hi_of HO rfl) rfl (fun w' hE => by (repeat (with_reducible replace hE := Ext.unD hE)); have hcE := hE.hc; clear hE; go_simp; rfl) ?_
      simp only [Act.put, List.setIfInBounds_toArray, List.set_cons_succ, List.set_cons_zero]
      refine plan_read _ (hi_of HO rfl) rfl (fun w' hE => by (repeat (with_reducible replace hE := Ext.unD hE)); have hcE := hE.hc; clear hE; go_simp; rfl) ?_
      simp only [Act.put, List.setIfInBounds_toArray, List.set_cons_succ, List.set_cons_zero]
      refine plan_read _ (hi_of HO rfl) rfl (fun w' hE => by (repeat (with_reducible replace hE := Ext.unD hE)); have hcE := hE.hc; clear hE; go_simp; rfl) ?_
      simp only [Act.put, List.setIfInBounds_toArray, List.set_cons_succ, List.set_cons_zero]
      refine plan_read _ (hi_of HO rfl) rfl (fun w' hE => by (repeat (with_reducible replace hE := Ext.unD hE)); have hcE := hE.hc; clear hE; go_simp; rfl) ?_
      simp only [Act.put, List.setIfInBounds_toArray, List.set_cons_succ, List.set_cons_zero]
      refine plan_read _ (hi_of HO rfl) rfl (fun w' hE => by (repeat (with_reducible replace hE := Ext.unD hE)); have hcE := hE.hc; clear hE; go_simp; rfl) ?_
      simp only [Act.put, List.setIfInBounds_toArray, List.set_cons_succ, List.set_cons_zero]
      refine plan_read _ (hi_of HO rfl) rfl (fun w' hE => by (repeat (with_reducible replace hE := Ext.unD hE)); have hcE := hE.hc; clear hE; go_simp; rfl) ?_
      simp only [Act.put, List.setIfInBounds_toArray, List.set_cons_succ, List.set_cons_zero]
      refine plan_read _ (hi_of HO rfl) rfl (fun w' hE => by (repeat (with_reducible replace hE := Ext.unD hE)); have hcE := hE.hc; clear hE; go_simp; rfl) ?_
      simp only [Act.put, List.setIfInBounds_toArray, List.set_cons_succ, List.set_cons_zero]
      refine plan_read _ (hi_of HO rfl) rfl (fun w' hE => by (repeat (with_reducible replace hE := Ext.unD hE)); have hcE := hE.hc; clear hE; go_simp; rfl) ?_
      simp only [Act.put, List.setIfInBounds_toArray, List.set_cons_succ, List.set_cons_zero]
      refine plan_read _ (hi_of HO rfl) rfl (fun w' hE => by (repeat (with_reducible replace hE := Ext.unD hE)); have hcE := hE.hc; clear hE; go_simp; rfl) ?_
      simp only [Act.put, List.setIfInBounds_toArray, List.set_cons_succ, List.set_cons_zero]
      refine plan_read _ (hi_of HO rfl) rfl (fun w' hE => by (repeat (with_reducible replace hE := Ext.unD hE)); have hcE := hE.hc; clear hE; go_simp; rfl) ?_
      simp only [Act.put, List.setIfInBounds_toArray, List.set_cons_succ, List.set_cons_zero]
      refine plan_read _ (hi_of HO rfl) rfl (fun w' hE => by (repeat (with_reducible replace hE := Ext.unD hE)); have hcE := hE.hc; clear hE; go_simp; rfl) ?_
      simp only [Act.put, List.setIfInBounds_toArray, List.set_cons_succ, List.set_cons_zero]
      refine plan_read _ (hi_of HO rfl) rfl (fun w' hE => by (repeat (with_reducible replace hE := Ext.unD hE)); have hcE := hE.hc; clear hE; go_simp; rfl) ?_
      simp only [Act.put, List.setIfInBounds_toArray, List.set_cons_succ, List.set_cons_zero]
      refine plan_done ?fin109
      go_wp2
      go_ret
      exact ⟨rfl, HDF.out.ext ((Ext.refl F).drew)⟩
end Go.Proofs.Ytgglbohcnlcagaa
