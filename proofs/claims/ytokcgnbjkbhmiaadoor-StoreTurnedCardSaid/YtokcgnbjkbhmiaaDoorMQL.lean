/- Stores: All hands out an iterator over the entries of a range. Stores: all that a store holds, gathered by the law's own function. -/
import Derived.Test.YtokcgnbjkbhmiaaDoorMQJ
import Derived.Test.YtokcgnbjkbhmiaaDoorMHP
namespace Go.Proofs.YtokcgnbjkbhmiaaDoor
open Go.RowKit Go.Lib
set_option maxHeartbeats 4000000
set_option maxRecDepth 100000
set_option linter.unusedSimpArgs false
set_option linter.unusedVariables false

theorem segT_rows : ∀ (T : T4) (i j : Int), 0 ≤ i → segT T i j = (sl T.rows i.toNat j.toNat).map (fun r => (r.1, r.2.1))
  | .nil, i, j, _ => by simp [segT, Tr.rows, sl]
  | .node l k v s r, i, j, hi => by
    have hl := segT_rows l i (min j l.size) hi
    have hr := segT_rows r (max (i - l.size - 1) 0) (j - l.size - 1) (by omega)
    have hlen : l.rows.length = l.size := Tr.rows_len l
    by_cases hij : j ≤ i
    · rw [segT_none _ hij, sl_none _ (by omega)]; rfl
    · rw [segT, if_neg hij, hl, hr, show (Tr.node l k v s r).rows = l.rows ++ (k, v, s) :: r.rows from rfl, sl_split, hlen, List.map_append, List.map_append,
        show (min j (l.size : Int)).toNat = min j.toNat l.size by omega, show (max (i - l.size - 1) 0).toNat = i.toNat - l.size - 1 by omega, show (j - l.size - 1).toNat = j.toNat - l.size - 1 by omega, List.append_assoc]
      congr 2
      by_cases h : i ≤ (l.size : Int) ∧ (l.size : Int) < j
      · rw [if_pos h, if_pos (by omega)]; rfl
      · rw [if_neg h, if_neg (by omega)]; rfl
theorem segT_ents {T : T4} {l : List Ent} (h : T.rows = rowsE l) (i j : Nat) : (segT T i j).map Prod.snd = sl l i j := by
  rw [segT_rows T i j (by omega), h, List.map_map, show ((i : Int)).toNat = i by omega, show ((j : Int)).toNat = j by omega]
  unfold rowsE
  rw [sl_map, List.map_map]
  exact List.map_id' _
section
variable {w : World} {sb mb tb n : Nat} {s : St}
theorem spanS (i j : Nat) (h : StW w sb mb tb n s) (hi : i ≤ s.l.length) (hj : j ≤ s.l.length) : Calls Tryd.prog 75 #[.pointer (some ⟨tb, 0, none⟩), .int .i64 (i : Int), .int .i64 (j : Int)] w fun r w' =>
    ∃ nb ib jb pv T, r = .returned (.func (.func 112) #[] #[.pointer (some ⟨nb, 0, none⟩), .pointer (some ⟨ib, 0, none⟩), .pointer (some ⟨jb, 0, none⟩)]) ∧ SpanAt w' [] nb ib jb pv T (i : Int) (j : Int) ∧ (segT T (i : Int) (j : Int)).map Prod.snd = sl s.l i j ∧ Ext w w' := by
  obtain ⟨pv, T, hT, hI, hR, hE⟩ := h.t
  obtain ⟨pa, rfl, -⟩ := hI.ptr
  have HS := hid_mk h
  have hsz := te_size hR
  have hln := h.len
  have HI := hid_mk hI
  have HR := hid_mk hR
  have HZ := hid_mk hsz
  have HN := hid_mk (show s.l.length ≤ 256 ∧ i ≤ s.l.length ∧ j ≤ s.l.length from ⟨hln, hi, hj⟩)
  obtain ⟨⟨t0, t1, t2, t3, t4⟩, f0⟩ := hT
  have htl := cell_lt t4
  have ht1 : tb < w.heap.size + 1 := by omega
  have ht2 : tb < w.heap.size + 1 + 1 := by omega
  have ht3 : tb < w.heap.size + 1 + 1 + 1 := by omega
  have hn1 : ¬ tb = w.heap.size := by omega
  have hn2 : ¬ tb = w.heap.size + 1 := by omega
  have hn3 : ¬ tb = w.heap.size + 1 + 1 := by omega
  have e1 : max (i : Int) 0 = i := by omega
  have e2 : min (j : Int) (T.size : Int) = j := by omega
  have E12 := hid_mk (And.intro e1 e2)
  clear t0 t1 t2 t3 f0 hI hR hE h hsz hln hi hj e1 e2
  go_enter Tryd.func75, Tryd.ntmps75
  go_wp2_with fail
  obtain ⟨W, hW⟩ : ∃ W, (((w.alloc (.cells #[.int .i64 (i : Int)] 3)).alloc (.cells #[.int .i64 (j : Int)] 3)).alloc (.cells #[.pointer pa] 165)) = W := ⟨_, rfl⟩
  have hx : Ext w W := by rw [← hW]; (repeat (first | exact Ext.refl _ | apply Ext.drew_left | apply Ext.drew | apply Ext.alloc))
  have o1 : OneAt W w.heap.size (.int .i64 (i : Int)) := by
    rw [← hW]
    exact OneAt.ext ⟨_, heap_alloc_new w _⟩ (by (repeat (first | exact Ext.refl _ | apply Ext.drew_left | apply Ext.drew | apply Ext.alloc)))
  have o2 : OneAt W (w.heap.size + 1) (.int .i64 (j : Int)) := by
    have h := heap_alloc_new (w.alloc (.cells #[.int .i64 (i : Int)] 3)) (.cells #[.int .i64 (j : Int)] 3)
    rw [World.size_alloc] at h
    rw [← hW]
    exact OneAt.ext ⟨_, h⟩ (by (repeat (first | exact Ext.refl _ | apply Ext.drew_left | apply Ext.drew | apply Ext.alloc)))
  have o3 : OneAt W (w.heap.size + 1 + 1) (.pointer pa) := by
    have h := heap_alloc_new ((w.alloc (.cells #[.int .i64 (i : Int)] 3)).alloc (.cells #[.int .i64 (j : Int)] 3)) (.cells #[.pointer pa] 165)
    rw [World.size_alloc, World.size_alloc] at h
    rw [← hW]
    exact ⟨_, h⟩
  rw [hW]
  obtain ⟨q, hq⟩ : ∃ q, w.heap.size = q := ⟨_, rfl⟩
  have HQ := hid_mk hq
  rw [hq] at o1 o2 o3
  simp only [hq]
  have HX := hid_mk hx
  have HI2 := hid_mk (HI.out.xt (Xt.of hx))
  have HO1 := hid_mk o1
  have HO2 := hid_mk o2
  have HO3 := hid_mk o3
  have c1 := o1.c
  have c2 := o2.c
  have c3 := o3.c
  have f1 := o1.f
  have f2 := o2.f
  have l1 := o1.lt
  have l2 := o2.lt
  have l3 := o3.lt
  clear hW hx o1 o2 o3 htl ht1 ht2 ht3 hn1 hn2 hn3 t4 hq
  have KEY := hid_mk (fun (V : World) (hV : Ext w V) (k1 : V.cell? ⟨q, 0, none⟩ = some (.int .i64 (i : Int))) (k2 : V.cell? ⟨q + 1, 0, none⟩ = some (.int .i64 (j : Int))) (k3 : V.cell? ⟨q + 1 + 1, 0, none⟩ = some (.pointer pa)) =>
    (show ∃ nb ib jb pv T', Ending.returned (.func (.func 112) #[] #[.pointer (some ⟨q + 1 + 1, 0, none⟩), .pointer (some ⟨q, 0, none⟩), .pointer (some ⟨q + 1, 0, none⟩)]) = .returned (.func (.func 112) #[] #[.pointer (some ⟨nb, 0, none⟩), .pointer (some ⟨ib, 0, none⟩), .pointer (some ⟨jb, 0, none⟩)]) ∧ SpanAt V [] nb ib jb pv T' (i : Int) (j : Int) ∧ (segT T' (i : Int) (j : Int)).map Prod.snd = sl s.l i j ∧ Ext w V from
      ⟨q + 1 + 1, q, q + 1, .pointer pa, T, rfl, ⟨k3, k1, k2, by simp, by simp, by simp, ⟨_, _, _, HI.out.xt (Xt.of hV)⟩, by have := HN.out; omega, by have := HN.out; have := HZ.out; omega, by have := HN.out; have := HZ.out; omega, by simp⟩, segT_ents HR.out i j, hV⟩))
  obtain ⟨e1, e2⟩ := E12.out
  refine wp_region_held_below (fun i => i != 6 && i != 7) (.quiet 0 (.quiet 1 (.alt 2 (.alt 3 (.quiet 4 (.alt 5 (.alt 6 (.alt 7 .done .stop) .stop) (.alt 6 (.quiet 5 (.alt 7 .done .stop)) .stop))) .stop) (.alt 3 (.quiet 4 (.alt 2 (.alt 5 (.alt 6 (.alt 7 .done .stop) .stop) (.alt 6 (.quiet 5 (.alt 7 .done .stop)) .stop)) (.alt 6 (.quiet 2 (.quiet 5 (.alt 7 .done .stop))) .stop))) .stop)))) (by kernel_rfl) (by kernel_rfl) (by intro c a w d v h; cases d <;> exact h) (fun ops HO => ?_)
  refine plan_read _ (hi_of HO rfl) rfl (fun w' hE => by (repeat (with_reducible replace hE := Ext.unD hE)); have hcE := hE.hc; clear hE; go_simp; rfl) ?_
  simp only [Act.put, List.setIfInBounds_toArray, List.set_cons_succ, List.set_cons_zero]
  refine plan_read _ (hi_of HO rfl) rfl (fun w' hE => by (repeat (with_reducible replace hE := Ext.unD hE)); have hcE := hE.hc; clear hE; go_simp; rfl) ?_
  simp only [Act.put, List.setIfInBounds_toArray, List.set_cons_succ, List.set_cons_zero]
  refine plan_fork ?lA101 ?lB101
  case' lA101 =>
    refine plan_loud1 (hi_of HO rfl) rfl ?_
    go_simp
    refine ⟨by (repeat (first | exact Ext.refl _ | apply Ext.drew_left | apply Ext.drew | apply Ext.alloc)), ?_⟩
    refine plan_loud1 (hi_of HO rfl) rfl ?_
    go_simp
    refine ⟨by (repeat (first | exact Ext.refl _ | apply Ext.drew_left | apply Ext.drew | apply Ext.alloc)), ?_⟩
    refine plan_pure _ en_Tmany4 (hi_of HO rfl) rfl rfl (by go_simp; rfl) (fun w' hE => by exact (many4_any (HI2.out.xt (Xt.of (Ext.trans _ _ _ (by (repeat (first | exact Ext.refl _ | apply Ext.drew_left | apply Ext.drew | apply Ext.alloc))) hE))))) ?_
    simp only [Act.put, List.setIfInBounds_toArray, List.set_cons_succ, List.set_cons_zero]
    refine plan_fork ?lA102 ?lB102
    case' lA102 =>
      refine plan_loud1 (hi_of HO rfl) rfl ?_
      go_simp
      refine ⟨by (repeat (first | exact Ext.refl _ | apply Ext.drew_left | apply Ext.drew | apply Ext.alloc)), ?_⟩
      refine plan_loud1 (hi_of HO rfl) rfl ?_
      go_simp
      skip
      refine plan_loud1 (hi_of HO rfl) rfl ?_
      go_simp
      skip
      refine plan_done ?fin103
    case' lB102 =>
      refine plan_loud1 (hi_of HO rfl) rfl ?_
      go_simp
      skip
      refine plan_read _ (hi_of HO rfl) rfl (fun w' hE => by (repeat (with_reducible replace hE := Ext.unD hE)); have hcE := hE.hc; clear hE; go_simp; rfl) ?_
      simp only [Act.put, List.setIfInBounds_toArray, List.set_cons_succ, List.set_cons_zero]
      refine plan_loud1 (hi_of HO rfl) rfl ?_
      go_simp
      skip
      refine plan_done ?fin104
  case' lB101 =>
    refine plan_loud1 (hi_of HO rfl) rfl ?_
    go_simp
    refine ⟨by (repeat (first | exact Ext.refl _ | apply Ext.drew_left | apply Ext.drew | apply Ext.alloc)), ?_⟩
    refine plan_pure _ en_Tmany4 (hi_of HO rfl) rfl rfl (by go_simp; rfl) (fun w' hE => by exact (many4_any (HI2.out.xt (Xt.of (Ext.trans _ _ _ (by (repeat (first | exact Ext.refl _ | apply Ext.drew_left | apply Ext.drew | apply Ext.alloc))) hE))))) ?_
    simp only [Act.put, List.setIfInBounds_toArray, List.set_cons_succ, List.set_cons_zero]
    refine plan_fork ?lA105 ?lB105
    case' lA105 =>
      refine plan_loud1 (hi_of HO rfl) rfl ?_
      go_simp
      refine ⟨by (repeat (first | exact Ext.refl _ | apply Ext.drew_left | apply Ext.drew | apply Ext.alloc)), ?_⟩
      refine plan_fork ?lA106 ?lB106
      case' lA106 =>
        refine plan_loud1 (hi_of HO rfl) rfl ?_
        go_simp
        refine ⟨by (repeat (first | exact Ext.refl _ | apply Ext.drew_left | apply Ext.drew | apply Ext.alloc)), ?_⟩
        refine plan_loud1 (hi_of HO rfl) rfl ?_
        go_simp
        skip
        refine plan_loud1 (hi_of HO rfl) rfl ?_
        go_simp
        skip
        refine plan_done ?fin107
      case' lB106 =>
        refine plan_loud1 (hi_of HO rfl) rfl ?_
        go_simp
        skip
        refine plan_read _ (hi_of HO rfl) rfl (fun w' hE => by (repeat (with_reducible replace hE := Ext.unD hE)); have hcE := hE.hc; clear hE; go_simp; rfl) ?_
        simp only [Act.put, List.setIfInBounds_toArray, List.set_cons_succ, List.set_cons_zero]
        refine plan_loud1 (hi_of HO rfl) rfl ?_
        go_simp
        skip
        refine plan_done ?fin108
    case' lB105 =>
      refine plan_loud1 (hi_of HO rfl) rfl ?_
      go_simp
      skip
      refine plan_read _ (hi_of HO rfl) rfl (fun w' hE => by (repeat (with_reducible replace hE := Ext.unD hE)); have hcE := hE.hc; clear hE; go_simp; rfl) ?_
      simp only [Act.put, List.setIfInBounds_toArray, List.set_cons_succ, List.set_cons_zero]
      refine plan_read _ (hi_of HO rfl) rfl (fun w' hE => by (repeat (with_reducible replace hE := Ext.unD hE)); have hcE := hE.hc; clear hE; go_simp; rfl) ?_
      simp only [Act.put, List.setIfInBounds_toArray, List.set_cons_succ, List.set_cons_zero]
      refine plan_loud1 (hi_of HO rfl) rfl ?_
      go_simp
      skip
      refine plan_done ?fin109
  all_goals go_wp2
  all_goals go_ret
  all_goals exact KEY.out _ (Xl.ext HX.out (L := [q, q + 1]) (by (repeat (first | with_reducible exact Xl.refl _ | with_reducible apply Xl.alloc | with_reducible apply Xl.drew | with_reducible apply Xl.set | (focus (simp; done))))) (by rw [← HQ.out]; simp)) (by go_simp) (by go_simp) (by go_simp)
/-- An iterator over entries, in memory. -/
def IterAt (w : World) (rb : Nat) (xs : List Ent) : Prop := ∃ nb ib jb pv T i j, SpanAt w [] nb ib jb pv T i j ∧ w.cell? ⟨rb, 0, none⟩ = some (.func (.func 112) #[] #[.pointer (some ⟨nb, 0, none⟩), .pointer (some ⟨ib, 0, none⟩), .pointer (some ⟨jb, 0, none⟩)]) ∧ (segT T i j).map Prod.snd = xs
theorem IterAt.seq {w W : World} {rb : Nat} {xs : List Ent} (h : IterAt w rb xs) (hW : BelowX w.heap.size [] w W) : SeqN Tryd.prog 94 #[.pointer (some ⟨rb, 0, none⟩)] encEn w.heap.size [] xs W := by
  obtain ⟨nb, ib, jb, pv, T, i, j, h1, h2, rfl⟩ := h
  exact all_seq h1 h2 (by simp) hW
theorem IterAt.ext {w w' : World} {rb : Nat} {xs : List Ent} (h : IterAt w rb xs) (hx : Ext w w') : IterAt w' rb xs := by
  obtain ⟨nb, ib, jb, pv, T, i, j, h1, h2, h3⟩ := h
  obtain ⟨Sp, JJ, z, ht⟩ := h1.tr
  exact ⟨nb, ib, jb, pv, T, i, j, ⟨cell_ext hx h1.cn, cell_ext hx h1.ci, cell_ext hx h1.cj, by simp, by simp, by simp, ⟨Sp, JJ, z, ht.xt (Xt.of hx)⟩, h1.hi, h1.hj, h1.hz, by simp⟩, cell_ext hx h2, h3⟩
theorem noOne {w : World} {b : Nat} {v : Value} (h : OneAt w b v) : NoNode w b := fun k e s sm pl pr n' h' q => by obtain ⟨t, h⟩ := h; have h1 := q.c4; simp [World.cell?, h] at h1
theorem OneAt.new0 (w : World) (v : Value) (t : TypeId) : OneAt (w.alloc (.cells #[v] t)) w.heap.size v := ⟨_, heap_alloc_new w _⟩
/-- The iterator's own variable is written. -/
theorem IterAt.made {w : World} {rb nb ib jb : Nat} {pv : Value} {T : T4} {i j : Int} (h : SpanAt w [] nb ib jb pv T i j) (ho : OneAt w rb .nilFunc) :
    IterAt (w.setCell ⟨rb, 0, none⟩ (.func (.func 112) #[] #[.pointer (some ⟨nb, 0, none⟩), .pointer (some ⟨ib, 0, none⟩), .pointer (some ⟨jb, 0, none⟩)])) rb ((segT T i j).map Prod.snd) := by
  obtain ⟨Sp, JJ, z, ht⟩ := h.tr
  obtain ⟨pa, hpa, -⟩ := ht.ptr
  have hc := ho.c
  have n1 : nb ≠ rb := by rintro rfl; have e := h.cn; rw [hc, hpa] at e; cases e
  have n2 : ib ≠ rb := by rintro rfl; have e := h.ci; rw [hc] at e; cases e
  have n3 : jb ≠ rb := by rintro rfl; have e := h.cj; rw [hc] at e; cases e
  have hx : Xl [rb] w (w.setCell ⟨rb, 0, none⟩ (.func (.func 112) #[] #[.pointer (some ⟨nb, 0, none⟩), .pointer (some ⟨ib, 0, none⟩), .pointer (some ⟨jb, 0, none⟩)])) := by (repeat (first | with_reducible exact Xl.refl _ | with_reducible apply Xl.alloc | with_reducible apply Xl.drew | with_reducible apply Xl.set | (focus (simp; done))))
  exact ⟨nb, ib, jb, pv, T, i, j, ⟨hx.rd h.cn (by simpa using n1), hx.rd h.ci (by simpa using n2), hx.rd h.cj (by simpa using n3), by simp, by simp, by simp, ⟨Sp, JJ, z, ht.awayL (by intro b hb; rw [List.mem_singleton.1 hb]; exact noOne ho) hx⟩, h.hi, h.hj, h.hz, by simp⟩, (ho.set _).c, rfl⟩
theorem IterAt.made' {w : World} {nb ib jb : Nat} {pv : Value} {T : T4} {i j : Int} {t : TypeId} (h : SpanAt w [] nb ib jb pv T i j) :
    IterAt (w.alloc (.cells #[.func (.func 112) #[] #[.pointer (some ⟨nb, 0, none⟩), .pointer (some ⟨ib, 0, none⟩), .pointer (some ⟨jb, 0, none⟩)]] t)) w.heap.size ((segT T i j).map Prod.snd) := by
  obtain ⟨Sp, JJ, z, ht⟩ := h.tr
  have hx : Ext w (w.alloc (.cells #[.func (.func 112) #[] #[.pointer (some ⟨nb, 0, none⟩), .pointer (some ⟨ib, 0, none⟩), .pointer (some ⟨jb, 0, none⟩)]] t)) := by (repeat (first | exact Ext.refl _ | apply Ext.drew_left | apply Ext.drew | apply Ext.alloc))
  exact ⟨nb, ib, jb, pv, T, i, j, ⟨cell_ext hx h.cn, cell_ext hx h.ci, cell_ext hx h.cj, by simp, by simp, by simp, ⟨Sp, JJ, z, ht.xt (Xt.of hx)⟩, h.hi, h.hj, h.hz, by simp⟩, (OneAt.new0 w _ t).c, rfl⟩
theorem stAll_any (lo hi : ByteArray) (op : Bool) (h : StW w sb mb tb n s) : Calls Tryd.prog 48 #[.pointer (some ⟨sb, 0, none⟩), .agg #[.string lo, .string hi, .bool op]] w fun r w' =>
    ((rngCheck lo hi op = 0 ∧ ∃ rb, r = .returned (.tuple #[.func (.func 94) #[] #[.pointer (some ⟨rb, 0, none⟩)], .int .i64 0]) ∧ IterAt w' rb (sl s.l (cntE lo s.l) (hiE hi op s.l))) ∨ (rngCheck lo hi op ≠ 0 ∧ r = .returned (.tuple #[.nilFunc, .int .i64 (rngCheck lo hi op)]))) ∧ Ext w w' := by
  have HS0 := hid_mk h
  obtain ⟨r, hr⟩ : ∃ r, rngCheck lo hi op = r := ⟨_, rfl⟩
  have HR := hid_mk hr
  rw [hr]
  clear h hr
  go_enter Tryd.func48, Tryd.ntmps48
  go_wp2_with fail
  refine gen_callsT (fun W => W.heap[w.heap.size]? = some (.cells #[.string lo, .string hi, .bool op] 24 (0, 0)) ∧ Ext w W) ⟨heap_alloc_new w _, by (repeat (first | exact Ext.refl _ | apply Ext.drew_left | apply Ext.drew | apply Ext.alloc))⟩ ?_
  rintro W ⟨hq, hxW⟩
  refine (sCheck_any lo hi op W).mono ?_
  rintro e W1 ⟨rfl, hx1⟩
  rw [HR.out]
  have HX := hid_mk (Ext.trans _ _ _ hxW hx1)
  have hq1 := (hx1.below.block _ (Array.getElem?_eq_some_iff.1 hq).1).trans hq
  have q0 : W1.cell? ⟨w.heap.size, 0, none⟩ = some (.string lo) := by simp [World.cell?, hq1]
  have q1 : W1.cell? ⟨w.heap.size, 1, none⟩ = some (.string hi) := by simp [World.cell?, hq1]
  have q2 : W1.cell? ⟨w.heap.size, 2, none⟩ = some (.bool op) := by simp [World.cell?, hq1]
  have ql := cell_lt q0
  have HS := hid_mk (HS0.out.ext HX.out)
  have c3 := HS.out.c3
  have hsl := HS.out.lt
  clear hq hxW hx1 hq1
  by_cases hz : r = 0
  · subst hz
    go_wp2_with fail
    have hx9 := Ext.refl W1
    have hc9 := hx9.hc; have hl9 := hx9.hl; have he9 := hx9.hle; have hn9 := hx9.hne; replace hx9 := hid_mk hx9
    have HLE := hid_mk (show cntE lo s.l ≤ s.l.length ∧ hiE hi op s.l ≤ s.l.length from ⟨cntE_le _ _, hiE_le _ _ _⟩)
    refine wp_region_held_planC Ext (fun i => i != 11) (fun i => [0, 1, 2, 4, 7, 8].contains i) (.quiet 0 (.quiet 1 (.quiet 2 (.quiet 3 (.quiet 4 (.quiet 5 (.alt 6 (.quiet 7 (.quiet 8 (.alt 9 (.alt 10 (.alt 11 .done .stop) .stop) (.alt 10 (.alt 9 (.alt 11 .done .stop) .stop) .stop)))) (.alt 10 (.alt 6 (.quiet 7 (.quiet 8 (.alt 9 (.alt 11 .done .stop) .stop))) .stop) .stop)))))))) (by kernel_rfl) (by kernel_rfl) Ext.refl Ext.trans (by intro c a w d v h; cases d <;> exact h) (fun ops HO => ?_)
    refine planC_calm _ (hi_of HO rfl) rfl (fun w' => by go_simp; rfl) ?_
    simp only [Act.put, List.setIfInBounds_toArray, List.set_cons_succ, List.set_cons_zero]
    refine planC_calm _ (hi_of HO rfl) rfl (fun w' => by go_simp; rfl) ?_
    simp only [Act.put, List.setIfInBounds_toArray, List.set_cons_succ, List.set_cons_zero]
    refine planC_calm _ (hi_of HO rfl) rfl (fun w' => by go_simp; rfl) ?_
    simp only [Act.put, List.setIfInBounds_toArray, List.set_cons_succ, List.set_cons_zero]
    refine planC_read _ (hi_of HO rfl) rfl rfl (fun w' hE => by have hcE := (Ext.trans _ _ _ (by (repeat (first | exact hx9.out | apply Ext.drew | apply Ext.alloc))) hE).hc; (repeat (with_reducible replace hE := Ext.unD hE)); have hcF := hE.hc; clear hE; go_simp; rfl) ?_
    simp only [Act.put, List.setIfInBounds_toArray, List.set_cons_succ, List.set_cons_zero]
    refine planC_calm _ (hi_of HO rfl) rfl (fun w' => by go_simp; rfl) ?_
    simp only [Act.put, List.setIfInBounds_toArray, List.set_cons_succ, List.set_cons_zero]
    refine planC_read _ (hi_of HO rfl) rfl rfl (fun w' hE => by have hcE := (Ext.trans _ _ _ (by (repeat (first | exact hx9.out | apply Ext.drew | apply Ext.alloc))) hE).hc; (repeat (with_reducible replace hE := Ext.unD hE)); have hcF := hE.hc; clear hE; go_simp; rfl) ?_
    simp only [Act.put, List.setIfInBounds_toArray, List.set_cons_succ, List.set_cons_zero]
    refine planC_fork ?lA110 ?lB110
    case' lA110 =>
      refine planC_call1 en_stRank0 (hi_of HO rfl) rfl rfl (by go_simp; rfl) (by exact (stRank_any lo hi op (HS.out.ext (by (repeat (first | exact Ext.refl _ | apply Ext.drew_left | apply Ext.drew | apply Ext.alloc)))))) ?_
      rintro e v111 ⟨rfl, hx111⟩
      refine ⟨_, rfl, fun _ => hx111, ?_⟩
      have hy111 := hid_mk (by first | (with_reducible exact Ext.unD hx111) | exact hx111 : Ext _ v111)
      replace hx111 := Ext.trans _ _ _ (by (repeat (first | exact hx9.out | apply Ext.drew | apply Ext.alloc))) hx111
      clear hc9 hl9 he9 hn9
      have hc111 := hx111.hc; have hl111 := hx111.hl; have he111 := hx111.hle; have hn111 := hx111.hne; replace hx111 := hid_mk hx111
      simp only [Act.put, List.setIfInBounds_toArray, List.set_cons_succ, List.set_cons_zero]
      have HV := hid_mk hx111.out
      try have HZV := hid_mk (OneAt.ext (OneAt.new0 W1 _ _) hy111.out)
      refine planC_calm _ (hi_of HO rfl) rfl (fun w' => by go_simp; rfl) ?_
      simp only [Act.put, List.setIfInBounds_toArray, List.set_cons_succ, List.set_cons_zero]
      refine planC_calm _ (hi_of HO rfl) rfl (fun w' => by go_simp; rfl) ?_
      simp only [Act.put, List.setIfInBounds_toArray, List.set_cons_succ, List.set_cons_zero]
      refine planC_fork ?lA112 ?lB112
      case' lA112 =>
        refine planC_call1 en_TSpan4 (hi_of HO rfl) rfl rfl (by go_simp; rfl) (by exact spanS (cntE lo s.l) (hiE hi op s.l) (HS.out.ext (Ext.trans _ _ _ HV.out (by (repeat (first | exact Ext.refl _ | apply Ext.drew_left | apply Ext.drew | apply Ext.alloc))))) HLE.out.1 HLE.out.2) ?_
        rintro r v9 ⟨nb, ib, jb, pv, T, rfl, hsp, hseg, hx⟩
        refine ⟨_, rfl, fun _ => hx, ?_⟩
        have HX9 := hid_mk (Ext.trans _ _ _ (Ext.trans _ _ _ HV.out (by (repeat (first | exact Ext.refl _ | apply Ext.drew_left | apply Ext.drew | apply Ext.alloc)))) hx)
        have HSP := hid_mk hsp
        have HSEG := hid_mk hseg
        first | have HZ9 := hid_mk (HZV.out.ext hx) | have HZ9 := hid_mk (OneAt.ext (OneAt.new0 _ _ _) hx) | skip
        simp only [Act.put, List.setIfInBounds_toArray, List.set_cons_succ, List.set_cons_zero]
        clear hx hsp hseg
        refine planC_loud1 (hi_of HO rfl) rfl ?_
        go_simp
        refine ⟨by (repeat (first | exact Ext.refl _ | apply Ext.drew_left | apply Ext.drew | apply Ext.alloc)), ?_⟩
        try (have z0 := HZ9.out.c; have zf := HZ9.out.f; have zl := HZ9.out.lt)
        refine planC_loud1 (hi_of HO rfl) rfl ?_
        go_simp
        refine planC_done ?fin113
      case' lB112 =>
        refine planC_loud1 (hi_of HO rfl) rfl ?_
        go_simp
        refine ⟨by (repeat (first | exact Ext.refl _ | apply Ext.drew_left | apply Ext.drew | apply Ext.alloc)), ?_⟩
        refine planC_call1 en_TSpan4 (hi_of HO rfl) rfl rfl (by go_simp; rfl) (by exact spanS (cntE lo s.l) (hiE hi op s.l) (HS.out.ext (Ext.trans _ _ _ HV.out (by (repeat (first | exact Ext.refl _ | apply Ext.drew_left | apply Ext.drew | apply Ext.alloc))))) HLE.out.1 HLE.out.2) ?_
        rintro r v9 ⟨nb, ib, jb, pv, T, rfl, hsp, hseg, hx⟩
        refine ⟨_, rfl, fun _ => hx, ?_⟩
        have HX9 := hid_mk (Ext.trans _ _ _ (Ext.trans _ _ _ HV.out (by (repeat (first | exact Ext.refl _ | apply Ext.drew_left | apply Ext.drew | apply Ext.alloc)))) hx)
        have HSP := hid_mk hsp
        have HSEG := hid_mk hseg
        first | have HZ9 := hid_mk (HZV.out.ext hx) | have HZ9 := hid_mk (OneAt.ext (OneAt.new0 _ _ _) hx) | skip
        simp only [Act.put, List.setIfInBounds_toArray, List.set_cons_succ, List.set_cons_zero]
        clear hx hsp hseg
        try (have z0 := HZ9.out.c; have zf := HZ9.out.f; have zl := HZ9.out.lt)
        refine planC_loud1 (hi_of HO rfl) rfl ?_
        go_simp
        refine planC_done ?fin114
    case' lB110 =>
      refine planC_loud1 (hi_of HO rfl) rfl ?_
      go_simp
      refine ⟨by (repeat (first | exact Ext.refl _ | apply Ext.drew_left | apply Ext.drew | apply Ext.alloc)), ?_⟩
      refine planC_call1 en_stRank0 (hi_of HO rfl) rfl rfl (by go_simp; rfl) (by exact (stRank_any lo hi op (HS.out.ext (by (repeat (first | exact Ext.refl _ | apply Ext.drew_left | apply Ext.drew | apply Ext.alloc)))))) ?_
      rintro e v115 ⟨rfl, hx115⟩
      refine ⟨_, rfl, fun _ => hx115, ?_⟩
      have hy115 := hid_mk (by first | (with_reducible exact Ext.unD hx115) | exact hx115 : Ext _ v115)
      replace hx115 := Ext.trans _ _ _ (by (repeat (first | exact hx9.out | apply Ext.drew | apply Ext.alloc))) hx115
      clear hc9 hl9 he9 hn9
      have hc115 := hx115.hc; have hl115 := hx115.hl; have he115 := hx115.hle; have hn115 := hx115.hne; replace hx115 := hid_mk hx115
      simp only [Act.put, List.setIfInBounds_toArray, List.set_cons_succ, List.set_cons_zero]
      have HV := hid_mk hx115.out
      try have HZV := hid_mk (OneAt.ext (OneAt.new0 W1 _ _) hy115.out)
      refine planC_calm _ (hi_of HO rfl) rfl (fun w' => by go_simp; rfl) ?_
      simp only [Act.put, List.setIfInBounds_toArray, List.set_cons_succ, List.set_cons_zero]
      refine planC_calm _ (hi_of HO rfl) rfl (fun w' => by go_simp; rfl) ?_
      simp only [Act.put, List.setIfInBounds_toArray, List.set_cons_succ, List.set_cons_zero]
      refine planC_call1 en_TSpan4 (hi_of HO rfl) rfl rfl (by go_simp; rfl) (by exact spanS (cntE lo s.l) (hiE hi op s.l) (HS.out.ext (Ext.trans _ _ _ HV.out (by (repeat (first | exact Ext.refl _ | apply Ext.drew_left | apply Ext.drew | apply Ext.alloc))))) HLE.out.1 HLE.out.2) ?_
      rintro r v9 ⟨nb, ib, jb, pv, T, rfl, hsp, hseg, hx⟩
      refine ⟨_, rfl, fun _ => hx, ?_⟩
      have HX9 := hid_mk (Ext.trans _ _ _ (Ext.trans _ _ _ HV.out (by (repeat (first | exact Ext.refl _ | apply Ext.drew_left | apply Ext.drew | apply Ext.alloc)))) hx)
      have HSP := hid_mk hsp
      have HSEG := hid_mk hseg
      first | have HZ9 := hid_mk (HZV.out.ext hx) | have HZ9 := hid_mk (OneAt.ext (OneAt.new0 _ _ _) hx) | skip
      simp only [Act.put, List.setIfInBounds_toArray, List.set_cons_succ, List.set_cons_zero]
      clear hx hsp hseg
      try (have z0 := HZ9.out.c; have zf := HZ9.out.f; have zl := HZ9.out.lt)
      refine planC_loud1 (hi_of HO rfl) rfl ?_
      go_simp
      refine planC_done ?fin116
    case lB110 =>
      go_wp2
      refine bodyPost_ret (v := .tuple #[.func (.func 94) #[] #[.pointer (some ⟨W1.heap.size, 0, none⟩)], .int .i64 0]) (by unfold results; rw [Tryd.results48]; go_simp; first | done | rfl) rfl ?_
      refine ⟨⟨W1.heap.size, by first | rfl | simp, HSEG.out ▸ IterAt.made HSP.out HZ9.out⟩, ?_⟩
      exact Xl.ext (Ext.trans _ _ _ HX.out HX9.out) (L := [W1.heap.size]) (by (repeat (first | with_reducible exact Xl.refl _ | with_reducible apply Xl.alloc | with_reducible apply Xl.drew | with_reducible apply Xl.set | (focus (simp; done))))) (by intro k hk; rw [List.mem_singleton.1 hk]; exact HX.out.below.size)
    case lB112 =>
      go_wp2
      refine bodyPost_ret (v := .tuple #[.func (.func 94) #[] #[.pointer (some ⟨v111.heap.size, 0, none⟩)], .int .i64 0]) (by unfold results; rw [Tryd.results48]; go_simp; first | done | rfl) rfl ?_
      refine ⟨⟨v111.heap.size, by first | rfl | simp, HSEG.out ▸ IterAt.made HSP.out HZ9.out⟩, ?_⟩
      exact Xl.ext (Ext.trans _ _ _ HX.out HX9.out) (L := [v111.heap.size]) (by (repeat (first | with_reducible exact Xl.refl _ | with_reducible apply Xl.alloc | with_reducible apply Xl.drew | with_reducible apply Xl.set | (focus (simp; done))))) (by intro k hk; rw [List.mem_singleton.1 hk]; exact Nat.le_trans HX.out.below.size HV.out.below.size)
    case lA112 =>
      go_wp2
      refine bodyPost_ret (v := .tuple #[.func (.func 94) #[] #[.pointer (some ⟨v9.heap.size, 0, none⟩)], .int .i64 0]) (by unfold results; rw [Tryd.results48]; go_simp; first | done | rfl) rfl ?_
      refine ⟨⟨v9.heap.size, by first | rfl | simp, HSEG.out ▸ IterAt.made' HSP.out⟩, ?_⟩
      exact Ext.trans _ _ _ (Ext.trans _ _ _ HX.out HX9.out) (by (repeat (first | exact Ext.refl _ | apply Ext.drew_left | apply Ext.drew | apply Ext.alloc)))
  · go_wp2
    refine bodyPost_ret (v := .tuple #[.nilFunc, .int .i64 r]) (by unfold results; rw [Tryd.results48]; go_simp; first | done | rfl) rfl ?_
    exact ⟨.inr ⟨hz, rfl⟩, HX.out⟩
end
end Go.Proofs.YtokcgnbjkbhmiaaDoor
namespace Go.Proofs.YtokcgnbjkbhmiaaDoor
open Go.RowKit Go.Lib
set_option maxHeartbeats 4000000
set_option maxRecDepth 100000
set_option linter.unusedSimpArgs false
set_option linter.unusedVariables false
attribute [local go_sem] Oper.semAt_some
attribute [-go_sem] Builtin.append_

theorem eql_seqEn (w : World) (g : Fn) (x : Array Value) : (binOp .eql 100 (.func g #[] x) .nilFunc).run Tryd.prog w = .ok (.bool false) w := by kernel_rfl
attribute [local go_sem ↓] eql_seqEn
theorem cnt_empty (l : List Ent) : cntE ⟨#[]⟩ l = 0 := by
  unfold cntE
  rw [List.countP_eq_zero]
  intro x _
  have h : (⟨#[]⟩ : ByteArray).toList = [] := by simp [ByteArray.toList_eq]
  rw [h]
  cases x.key.toList <;> simp [Op.bytesLess]
theorem rng_whole : rngCheck ⟨#[]⟩ ⟨#[]⟩ true = 0 := by simp [rngCheck, ByteArray.toList_eq, ByteArray.size]
theorem sl_whole (l : List Ent) : sl l (cntE ⟨#[]⟩ l) (hiE ⟨#[]⟩ true l) = l := by rw [cnt_empty]; exact sl_all l (by simp [hiE])
/-- What a gathering loop keeps: its list, in a variable, in a row of its own. -/
structure Gath (w0 : World) (B lb : Nat) (pre : List Ent) (g : Nat) (X : World) : Prop where
  bl : Below w0.heap.size w0 X
  v : ∃ v, OneAt X lb v ∧ OwEn X B v pre ∧ (∀ k, v.ownBlock = some k → k = g)
theorem en_grown {B : Nat} {L : List Nat} {X Y : World} {row : Option Nat} (hg : X.grownBy Y row) (hB : B ≤ X.heap.size) (hr : ∀ k, row = some k → B ≤ k ∧ ∃ o : Obj, X.heap[k]? = some o ∧ o.isCells = true) : EN B L X Y :=
  ⟨⟨hg.os, hg.tape, hg.output, hg.size, fun k hk _ => hg.block k (by omega) (fun e => by have := (hr k e.symm).1; omega)⟩, ⟨hg.size, fun k o hk h0 hc => (hg.block k (Array.getElem?_eq_some_iff.1 h0).1 (fun e => by
    obtain ⟨-, o2, h1, h2⟩ := hr k e.symm
    rw [h0] at h1
    cases h1
    rw [hc] at h2
    cases h2)).trans h0⟩⟩
theorem own_row {w : World} {B : Nat} {v : Value} {l : List Ent} (h : OwEn w B v l) : ∀ k, v.ownBlock = some k → B ≤ k ∧ ∃ o : Obj, w.heap[k]? = some o ∧ o.isCells = true := fun k hk => by
  rcases h.2 with ⟨e1, -⟩ | ⟨g, cap, cur, e1, e2, e3, -⟩
  · rw [e1] at hk; cases hk
  · rw [e1] at hk
    cases hk
    exact ⟨e2, _, e3, rfl⟩
theorem one_sl (X : World) (x : Ent) : EntSl (X.alloc (.cells #[.string x.key, .int .i64 x.ctr, .int .i64 x.node, .string x.val, .bool x.dead] 57)) (.slice (some ⟨X.heap.size, 0, none⟩) 1 1) [x] := by
  refine ⟨_, 1, rfl, Nat.le_refl _, by simp, fun _ => ⟨X.heap.size, 0, rfl, fun i hi => ?_⟩⟩
  obtain rfl : i = 0 := by simp at hi; omega
  have h := EnB4.new X x
  exact ⟨h.c0, h.c1, h.c2, h.c3, h.c4⟩
section
variable {w : World} {sb mb tb n : Nat} {s : St}
theorem held_any (h : StW w sb mb tb n s) : Calls Tryd.prog 28 #[.pointer (some ⟨sb, 0, none⟩)] w fun r w' => ∃ v, r = .returned (.tuple #[v, .bool true]) ∧ EntSl w' v s.l ∧ Ext w w' := by
  have HS0 := hid_mk h
  have HLN := hid_mk h.len
  clear h
  refine (callsIn_wide (n := 0)).1 ?_
  refine callsIn_of_wp_marks Tryd.func28 rfl trivial (wpIn_wide.2 (wp_mono ?_ (np_of (Q := _)))) rfl
  simp only [Tryd.ntmps28, List.size_toArray, List.length_cons, List.length_nil, Nat.reduceAdd, Nat.reduceSub, Array.replicate_succ, Array.replicate_zero, List.push_toArray, List.append_toArray, List.nil_append, List.cons_append]
  go_wp2_with fail
  refine (sWhole_any w).mono ?_
  rintro e w1 ⟨rfl, hx1⟩
  have HX1 := hid_mk hx1
  clear hx1
  go_wp2_with fail
  refine (stAll_any _ _ _ (HS0.out.ext HX1.out)).mono ?_
  rintro e w2 ⟨(⟨-, rb, rfl, hit⟩ | ⟨h9, -⟩), hx2⟩
  rotate_left
  · exact absurd rng_whole h9
  rw [sl_whole] at hit
  have HIT := hid_mk hit
  have HX2 := hid_mk (Ext.trans _ _ _ HX1.out hx2)
  clear hit hx2
  go_wp2_with fail
  obtain ⟨W, hW⟩ : ∃ W, w2.alloc (.cells #[.slice none 0 0] 22) = W := ⟨_, rfl⟩
  have hxW : Ext w2 W := by rw [← hW]; (repeat (first | exact Ext.refl _ | apply Ext.drew_left | apply Ext.drew | apply Ext.alloc))
  have hob : OneAt W w2.heap.size (.slice none 0 0) := by rw [← hW]; exact OneAt.new0 w2 _ _
  have hzW : W.heap.size = w2.heap.size + 1 := by rw [← hW]; simp
  rw [hW]
  obtain ⟨lb, hlb⟩ : ∃ lb, w2.heap.size = lb := ⟨_, rfl⟩
  rw [hlb] at hob hzW
  simp only [hlb]
  have HLB := hid_mk hlb
  have HXW := hid_mk hxW
  have HOB := hid_mk hob
  have HZW := hid_mk hzW
  clear hW hxW hob hzW hlb
  refine gen_act (fun TM HT => ?_)
  refine (wpIn_wide (n := 0)).1 ?_
  refine rangeN (B := w2.heap.size) (L := []) (gf := 94) (lb := #[.pointer (some ⟨rb, 0, none⟩)]) (by rw [HT.out]; rfl) (enters_of Tryd.func94 (by kernel_rfl) rfl) (encs := encEn) HXW.out.below.size (xs := s.l)
    (fun X hX => HIT.out.seq (.of (HXW.out.below.trans (hX.mono HXW.out.below.size)))) (fun _ => rfl)
    (fun pg X => Gath w2 (lb + 1) lb pg.1 pg.2 X)
    (fun c pre X => False)
    (fun s X Y row h hg hr => ⟨ownFrom_below (β := Unit) (Nat.le_refl _) (HXW.out.below.size) () X Y row h.bl hg hr, by
      obtain ⟨v, h1, h2, h3⟩ := h.v
      exact ⟨v, h1.own hg (fun r e => (hr r e).2), h2.kept hg (fun r e => (hr r e).2), h3⟩⟩)
    (fun c s X Y row h hg hr => h)
    0 (by omega)
    ⟨HXW.out.below, _, HOB.out, ownE_nil _ _, fun k hk => by cases hk⟩
    (fun pg x a' X => Gath w2 (lb + 1) lb pg.1 pg.2 X ∧ ∃ b7, EnB4 X b7 x ∧ lb < b7 ∧ Hid (a' = { tmps := (TM.setIfInBounds 21 (entV x)).setIfInBounds 7 (.pointer (some ⟨b7, 0, none⟩)), defers := [] }))
    (fun pg x a' _ X Y row hs hg hr => by
      obtain ⟨h, b7, h1, h2, h3⟩ := hs
      refine ⟨⟨ownFrom_below (β := Unit) (Nat.le_refl _) (HXW.out.below.size) () X Y row h.bl hg hr, ?_⟩, b7, en_own h1 hg (fun r e => (hr r e).2), h2, h3⟩
      obtain ⟨v, h1, h2, h3⟩ := h.v
      exact ⟨v, h1.own hg (fun r e => (hr r e).2), h2.kept hg (fun r e => (hr r e).2), h3⟩)
    ?assign ?body ?done ?stop
  case assign =>
    rintro l pg x X hG
    obtain ⟨v, h1, h2, h3⟩ := hG.v
    simp only [encEn]
    rw [HT.out]
    simp
    gi_wp2
    have hx : Ext X (X.alloc (.cells #[.string x.key, .int .i64 x.ctr, .int .i64 x.node, .string x.val, .bool x.dead] 57)) := by (repeat (first | exact Ext.refl _ | apply Ext.drew_left | apply Ext.drew | apply Ext.alloc))
    exact ⟨hx, ⟨hG.bl.trans (hx.below.mono hG.bl.size), v, h1.ext hx, h2.ext hx, h3⟩, X.heap.size, EnB4.new X x, h1.lt, hid_mk (by first | rfl | (rw [HT.out]; rfl))⟩
  case body =>
    rintro l pre g x a' X ⟨hG, b7, h7, hb7, ha⟩ hlt
    rw [ha.out, HT.out]
    simp only [List.setIfInBounds_toArray, List.set_cons_succ, List.set_cons_zero]
    obtain ⟨v, h1, h2, h3⟩ := hG.v
    obtain ⟨pa, cm, rfl⟩ := own_form h2
    have hx1 : Ext X (X.alloc (.cells #[.string x.key, .int .i64 x.ctr, .int .i64 x.node, .string x.val, .bool x.dead] 57)) := by (repeat (first | exact Ext.refl _ | apply Ext.drew_left | apply Ext.drew | apply Ext.alloc))
    have hzX : w2.heap.size ≤ X.heap.size := hG.bl.size
    obtain ⟨v', w', hrun, hown, hgb, hgo⟩ := appendE (h2.ext hx1) (one_sl X x) (by have := HLN.out; simp; omega) (by have := h1.lt; simp; omega)
    obtain ⟨pa', cm', rfl⟩ := own_form hown
    have HH2 := hid_mk (h2.ext hx1)
    have HX1 := hid_mk hx1
    have HG := hid_mk hG
    have HGB := hid_mk hgb
    have HGO := hid_mk hgo
    have HOW := hid_mk hown
    have H1 := hid_mk h1
    have H3 := hid_mk h3
    have c6 := h1.c
    have l6 := h1.lt
    have hl1 : lb < X.heap.size + 1 := by omega
    have hln1 : ¬ lb = X.heap.size := by omega
    have hob : OneAt w' lb (.slice pa pre.length cm) := by
      obtain ⟨t, ht⟩ := h1
      refine ⟨t, (hgb.block lb (by simp; omega) (fun e => ?_)).trans ((hx1.below.block lb l6).trans ht)⟩
      have := (own_row (h2.ext hx1) lb e.symm).1
      omega
    have cw := hob.c
    have fw := hob.f
    have lw := hob.lt
    have HOB2 := hid_mk hob
    have a0 := h7.c0
    have a1 := h7.c1
    have a2 := h7.c2
    have a3 := h7.c3
    have a4 := h7.c4
    have al := h7.lt
    have HHR := hid_mk hzX
    clear h1 h2 h3 hx1 hgb hgo hown hob hG h7 hzX
    gi_wp2
    have HBL := hid_mk (HLB.out)
    obtain ⟨g', hg1, hg2⟩ : ∃ g', (g' = g ∨ X.heap.size ≤ g') ∧ ∀ k, (Value.slice pa' (pre.length + 1) cm').ownBlock = some k → k = g' := by
      rcases HGO.out with e | e
      · exact ⟨g, .inl rfl, fun k hk => H3.out k (by rw [← e]; first | exact hk | (cases pa' <;> exact hk) | simpa using hk)⟩
      · exact ⟨X.heap.size + 1, .inr (by omega), fun k hk => by
          have e2 : (Value.slice pa' (pre.length + 1) cm').ownBlock = some (X.heap.size + 1) := by
            have := e
            simpa using this
          rw [e2] at hk
          cases hk
          rfl⟩
    have hfr : ∀ k, k < X.heap.size → k ≠ g → k ≠ lb → (w'.setCell ⟨lb, 0, none⟩ (.slice pa' (pre.length + 1) cm')).heap[k]? = X.heap[k]? := fun k hk hkg hkl => by
      refine (Below.heap_setCell _ _ _ _ (by show k ≠ lb; exact hkl)).trans ((HGB.out.block k (by simp; omega) (fun e => hkg (H3.out k e.symm))).trans (HX1.out.below.block k hk))
    refine ⟨g', ⟨?_, hg1, fun k hk hkx hkg => hfr k hkx hkg (by have := HLB.out; have := HZW.out; omega)⟩, ⟨?_, _, HOB2.out.set _, ?_, hg2⟩⟩
    · refine EN.set ((EN.ext HX1.out HHR.out).trans (en_grown HGB.out (by have := HX1.out.below.size; have := HHR.out; omega) (fun k hk => ?_))) (.inl (by have := HLB.out; omega))
      have h := own_row HH2.out k hk
      exact ⟨by have := HLB.out; omega, h.2⟩
    · have h1 : Below w2.heap.size w2 w' := (HG.out.bl.trans (HX1.out.below.mono HHR.out)).grown HGB.out (by have := HX1.out.below.size; have := HHR.out; omega) (fun k hk => by have := (own_row HH2.out k hk).1; have := HLB.out; omega)
      exact Below.setCell h1 (show w2.heap.size ≤ lb by have := HLB.out; omega) _
    · have hxl : Xl [lb] w' (w'.setCell ⟨lb, 0, none⟩ (.slice pa' (pre.length + 1) cm')) := by (repeat (first | with_reducible exact Xl.refl _ | with_reducible apply Xl.alloc | with_reducible apply Xl.drew | with_reducible apply Xl.set | (focus (simp; done))))
      have ho := HOW.out
      refine OwEn.xl hxl (fun k hk => ?_) (by simpa using ho)
      have := (own_row ho k (by simpa using hk)).1
      simp
      omega
  case done =>
    rintro D g' X hD hG hK
    obtain ⟨v, h1, h2, h3⟩ := hG.v
    have HK := hid_mk hK
    have HOW := hid_mk h2
    have HGX := hid_mk hG.bl
    have c6 := h1.c
    have l6 := h1.lt
    obtain ⟨pa, cm, rfl⟩ := own_form h2
    clear h1 h2 h3 hG hK
    rw [HT.out]
    go_wp2
    show LeavesInM Fence.wide 0 Tryd.prog Tryd.f28 _ _ _ _ _
    refine ⟨by simp, .inl ⟨_, _, rfl, run_takeDeferred HK.out, ?_⟩⟩
    refine ⟨.tuple #[.slice pa s.l.length cm, .bool true], by unfold results; rw [Tryd.results28]; simp [go_sem], _, rfl, ?_, ?_⟩
    · exact (HOW.out.kept (grownBy_putObj' _ D (.deferred none)) (fun r e => by cases e; exact ⟨_, HK.out, rfl⟩)).sl (by have := HLN.out; omega)
    · exact Ext.of ((HX2.out.below.trans (HGX.out.mono HX2.out.below.size)).trans (belowK_b (w := w) (Nat.le_refl _) X D (.deferred (some [])) (.deferred none) (Nat.le_trans HX2.out.below.size (Nat.le_trans HXW.out.below.size hD)) HK.out rfl rfl))
  case stop =>
    rintro D c pre rest X hD hx h hK
    exact h.elim
end
end Go.Proofs.YtokcgnbjkbhmiaaDoor
