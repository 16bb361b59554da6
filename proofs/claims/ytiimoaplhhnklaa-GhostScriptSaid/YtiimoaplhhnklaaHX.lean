/- Ghosts: one step of a script, at both. -/
import Derived.Test.YtiimoaplhhnklaaHW
namespace Go.Proofs.Ytiimoaplhhnklaa
open Go.RowKit
set_option maxHeartbeats 8000000
set_option maxRecDepth 100000
set_option linter.unusedSimpArgs false
set_option linter.unusedVariables false
attribute [local go_sem ↓] eql_entE neq_entE

def gstepA (o : GOp) (A : List Ent) : List Ent := if o.k = 0 then wroteA o.e A else A
def gstepL (o : GOp) (A : List Ent) (ls : Nat → List Ent) : Nat → List Ent := if o.k = 2 then seesLs o.nd o.l A ls else ls
/-- What is held may be. -/
def LsB (ls : Nat → List Ent) : Prop := ∀ i, i < 8 → mChk (ls i) = 0 ∧ (ls i).length ≤ 4194304
section
variable {B : Nat} {w w2 w4 w5 w' : World} {gb mb : Nat} {sv : Nat → Value} {A A1 : List Ent} {ls ls1 : Nat → List Ent} {rb : Nat} {rv : Value} {sr : Nat → Value} {A' A1' : List Ent} {ls' ls1' : Nat → List Ent}
theorem gdpost_junk {L : List Nat} (H : Gd B w gb mb sv A ls rb rv sr A' ls') (hx : Ext w w2) (h : GdPost B w2 gb mb sv rb rv sr A1 ls1 A1' ls1' w4) (hL : Xl L w4 w5) (h1 : ∀ y ∈ L, w.heap.size ≤ y ∧ y < w2.heap.size) : GdPost B w gb mb sv rb rv sr A1 ls1 A1' ls1' w5 := by
  obtain ⟨sv4, rv4, sr4, g4, x4, f4, n4, r4⟩ := h
  have hz := hx.below.size
  have hg : ∀ x ∈ fpG gb mb rb rv4, x ∉ L := fun x hx hm => by
    have h2 := h1 x hm
    rcases List.mem_append.1 hx with hx | hx
    · have := (H.fp_lt x (List.mem_append_left _ hx)).2; omega
    · rcases f4 x hx with e | e
      · have := (H.d.fp_lt x e).2; omega
      · omega
  have ha : SvAway L sv := fun i hi => EAway.of_lt (H.g.sl i hi) (fun x hx => (h1 x hx).1)
  have hb : SvAway L sr := fun i hi => EAway.of_lt (H.d.sl i hi) (fun x hx => (h1 x hx).1)
  refine ⟨sv4, rv4, sr4, g4.away hL hg (n4.away ha (fun x hx => (h1 x hx).2)) (r4.away hb (fun x hx => (h1 x hx).2)), ?_, fun x hx => (f4 x hx).imp id (fun h => by omega), ?_, ?_⟩
  · exact xl_cat' (Xl.trans _ _ _ (Xl.of hx) x4) hL (fun x hx => (h1 x hx).1)
  · exact (SvNew.refl w.heap.size sv).trans n4 hz
  · exact (SvNew.refl w.heap.size sr).trans r4 hz
end
theorem xl_hc {L : List Nat} {W w' : World} (hE : Xl L W.drew w') {b : Nat} (hb : b < W.heap.size) (hn : b ∉ L) : ∀ o, w'.cell? ⟨b, o, none⟩ = W.cell? ⟨b, o, none⟩ := fun o => hE.cell (k := b) (o := o) hb hn
/-- An op, boxed. -/
structure OpBox (w W : World) (k nd : Int) (e : Ent) (lv : Value) : Prop where
  ex : Ext w W
  sz : w.heap.size < W.heap.size
  c0 : W.cell? ⟨w.heap.size, 0, none⟩ = some (.int .i64 k)
  c1 : W.cell? ⟨w.heap.size, 1, none⟩ = some (.int .i64 nd)
  c2 : W.cell? ⟨w.heap.size, 2, none⟩ = some (.string e.key)
  c3 : W.cell? ⟨w.heap.size, 3, none⟩ = some (.int .i64 e.ctr)
  c4 : W.cell? ⟨w.heap.size, 4, none⟩ = some (.int .i64 e.node)
  c5 : W.cell? ⟨w.heap.size, 5, none⟩ = some (.string e.val)
  c6 : W.cell? ⟨w.heap.size, 6, none⟩ = some (.bool e.dead)
  c7 : W.cell? ⟨w.heap.size, 7, none⟩ = some lv
theorem opBox_new (w : World) (k nd : Int) (e : Ent) (lv : Value) (snd : Bool) : OpBox w (w.alloc (.cells #[.int .i64 k, .int .i64 nd, .string e.key, .int .i64 e.ctr, .int .i64 e.node, .string e.val, .bool e.dead, lv, .bool snd] 34)) k nd e lv :=
  ⟨by (repeat (first | exact Ext.refl _ | apply Ext.drew_left | apply Ext.drew | apply Ext.alloc)), by simp, by go_simp, by go_simp, by go_simp, by go_simp, by go_simp, by go_simp, by go_simp, by go_simp⟩
theorem gstep_wrote {B : Nat} {w : World} {gb mb : Nat} {sv : Nat → Value} {A : List Ent} {ls : Nat → List Ent} {rb : Nat} {rv : Value} {sr : Nat → Value} (h : Gd B w gb mb sv A ls rb rv sr A ls) (htw : NoTw A) (hls : LsB ls) (hA : A.length ≤ 100000000) (o : GOp) (hs : EntSl w o.lv o.l) (hl : o.l.length ≤ 4194304) (hk : o.k = 0) :
    Calls Try.prog 12 #[.pointer (some ⟨gb, 0, none⟩), .pointer (some ⟨rb, 0, none⟩), gopV o] w fun e w' => e = .returned (.bool true) ∧ GdPost B w gb mb sv rb rv sr (wroteA o.e A) ls (wroteA o.e A) ls w' := by
  have H := hid_mk h
  have HTW := hid_mk htw
  have HLS := hid_mk hls
  have HAL := hid_mk hA
  have HSL := hid_mk hs
  have HLL := hid_mk hl
  have hfp := fun x hx => (h.fp_lt x hx).2
  obtain ⟨L, hL⟩ : ∃ L, fpG gb mb rb rv = L := ⟨_, rfl⟩
  rw [hL] at hfp
  have hnb : w.heap.size ∉ L := fun hm => by have := hfp _ hm; omega
  have HLE := hid_mk hL
  obtain ⟨sla, slc, esl, -⟩ := hs
  obtain ⟨k, nd, x, lv, l, snd⟩ := o
  dsimp only at hk esl HSL HLL ⊢
  subst esl
  clear h htw hls hA hl hfp hL
  subst hk
  obtain ⟨re, hre⟩ : ∃ re, wroteE x A = re := ⟨_, rfl⟩
  have HRE := hid_mk hre
  clear hre
  go_enter Try.func12, Try.ntmps12
  go_wp2_with fail
  refine gen_codeH (fun W1 => OpBox w W1 0 nd x (.slice sla l.length slc)) (opBox_new w 0 nd x (.slice sla l.length slc) snd) ?_
  intro W1 hob
  have HOB := hid_mk hob
  have HX1 := hid_mk hob.ex
  have hxz := hob.sz
  obtain ⟨-, -, c0, c1, c2, c3, c4, c5, c6, c7⟩ := hob
  obtain ⟨xb, hxb⟩ : ∃ xb, w.heap.size = xb := ⟨_, rfl⟩
  rw [hxb] at hnb hxz c0 c1 c2 c3 c4 c5 c6 c7 ⊢
  have HXB := hid_mk hxb
  clear hxb
  refine wp_region_held_plan (Xl L) (fun _ => true) (.quiet 0 (.quiet 1 (.quiet 2 (.quiet 4 (.quiet 5 (.quiet 6 (.alt 3 (.alt 7 (.quiet 8 (.quiet 9 .done)) .stop) .stop))))))) (by kernel_rfl) (by kernel_rfl) Xl.refl Xl.trans (by intro c a w d v h; cases d <;> exact h) (fun ops HO => ?_)
  refine plan_read _ (hi_of HO rfl) rfl (fun w' hE => by (repeat (with_reducible replace hE := Ext.unD hE)); have hcE := hE.hc; clear hE; go_simp; rfl) ?_
  simp only [Act.put, List.setIfInBounds_toArray, List.set_cons_succ, List.set_cons_zero]
  refine plan_read _ (hi_of HO rfl) rfl (fun w' hE => by (repeat (with_reducible replace hE := Ext.unD hE)); have hcE := hE.hc; clear hE; go_simp; rfl) ?_
  simp only [Act.put, List.setIfInBounds_toArray, List.set_cons_succ, List.set_cons_zero]
  refine plan_read _ (hi_of HO rfl) rfl (fun w' hE => by have hcP := xl_hc hE hxz hnb; clear hE; go_simp; rfl) ?_
  simp only [Act.put, List.setIfInBounds_toArray, List.set_cons_succ, List.set_cons_zero]
  refine plan_read _ (hi_of HO rfl) rfl (fun w' hE => by (repeat (with_reducible replace hE := Ext.unD hE)); have hcE := hE.hc; clear hE; go_simp; rfl) ?_
  simp only [Act.put, List.setIfInBounds_toArray, List.set_cons_succ, List.set_cons_zero]
  refine plan_read _ (hi_of HO rfl) rfl (fun w' hE => by (repeat (with_reducible replace hE := Ext.unD hE)); have hcE := hE.hc; clear hE; go_simp; rfl) ?_
  simp only [Act.put, List.setIfInBounds_toArray, List.set_cons_succ, List.set_cons_zero]
  refine plan_read _ (hi_of HO rfl) rfl (fun w' hE => by have hcP := (fun o => Xl.hc hE xb o (by assumption) hnb); clear hE; go_simp; rfl) ?_
  simp only [Act.put, List.setIfInBounds_toArray, List.set_cons_succ, List.set_cons_zero]
  refine plan_call1 en_GhWrote (hi_of HO rfl) rfl rfl (by go_simp; rfl) (by exact gwrote_any (H.out.ext (Ext.drew HX1.out)).g x) ?_
  rintro e w3 ⟨rfl, hp3⟩
  rw [HRE.out]
  obtain ⟨sv3, hg3, hx3, hn3⟩ := (H.out.ext (Ext.drew HX1.out)).wg1 hp3
  have HG3 := hid_mk hg3
  have HN3 := hid_mk hn3
  have HX3' := hid_mk hx3
  rw [HLE.out] at hx3
  have HX3 := hid_mk hx3
  have hxz3 : xb < w3.heap.size := Nat.lt_of_lt_of_le hxz HX3.out.size
  have d2 := (xl_hc HX3.out hxz hnb 2).trans c2
  have d3 := (xl_hc HX3.out hxz hnb 3).trans c3
  have d4 := (xl_hc HX3.out hxz hnb 4).trans c4
  have d5 := (xl_hc HX3.out hxz hnb 5).trans c5
  have d6 := (xl_hc HX3.out hxz hnb 6).trans c6
  refine ⟨_, rfl, (fun _ => HX3.out), ?_⟩
  simp only [Act.put, List.setIfInBounds_toArray, List.set_cons_succ, List.set_cons_zero]
  clear hp3 hx3 hg3 hn3
  refine plan_call1 en_rGhWrote (hi_of HO rfl) rfl rfl (by go_simp; rfl) (by exact rwrote_any HG3.out.d x HAL.out) ?_
  rintro e w7 ⟨rfl, hp7⟩
  rw [HRE.out]
  have HP := hid_mk (gdpost_from HX1.out (gdpost_from ((Ext.refl W1).drew) (GdPost.then HX3'.out (fun x hx => .inl hx) HN3.out (SvNew.refl _ _) (HG3.out.wd hp7))))
  have HX7 := hid_mk (show Xl L w3 w7 by
  obtain ⟨_, _, _, -, h2, -⟩ := HG3.out.wd hp7
  rw [HLE.out] at h2
  exact h2)
  refine ⟨_, rfl, (fun _ => HX7.out), ?_⟩
  simp only [Act.put, List.setIfInBounds_toArray, List.set_cons_succ, List.set_cons_zero]
  clear hp7
  refine plan_read _ (hi_of HO rfl) rfl (fun w' hE => by (repeat (with_reducible replace hE := Ext.unD hE)); have hcE := hE.hc; clear hE; go_simp; rfl) ?_
  simp only [Act.put, List.setIfInBounds_toArray, List.set_cons_succ, List.set_cons_zero]
  refine plan_read _ (hi_of HO rfl) rfl (fun w' hE => by (repeat (with_reducible replace hE := Ext.unD hE)); have hcE := hE.hc; clear hE; go_simp; rfl) ?_
  simp only [Act.put, List.setIfInBounds_toArray, List.set_cons_succ, List.set_cons_zero]
  refine plan_done ?fin101
  go_wp2
  go_ret
  exact ⟨rfl, HP.out⟩
theorem gstep_written {B : Nat} {w : World} {gb mb : Nat} {sv : Nat → Value} {A : List Ent} {ls : Nat → List Ent} {rb : Nat} {rv : Value} {sr : Nat → Value} (h : Gd B w gb mb sv A ls rb rv sr A ls) (htw : NoTw A) (hls : LsB ls) (hA : A.length ≤ 100000000) (o : GOp) (hs : EntSl w o.lv o.l) (hl : o.l.length ≤ 4194304) (hk : o.k = 1) :
    Calls Try.prog 12 #[.pointer (some ⟨gb, 0, none⟩), .pointer (some ⟨rb, 0, none⟩), gopV o] w fun e w' => e = .returned (.bool true) ∧ GdPost B w gb mb sv rb rv sr A ls A ls w' := by
  have H := hid_mk h
  have HTW := hid_mk htw
  have HLS := hid_mk hls
  have HAL := hid_mk hA
  have HSL := hid_mk hs
  have HLL := hid_mk hl
  have hfp := fun x hx => (h.fp_lt x hx).2
  obtain ⟨L, hL⟩ : ∃ L, fpG gb mb rb rv = L := ⟨_, rfl⟩
  rw [hL] at hfp
  have hnb : w.heap.size ∉ L := fun hm => by have := hfp _ hm; omega
  have HLE := hid_mk hL
  obtain ⟨sla, slc, esl, -⟩ := hs
  obtain ⟨k, nd, x, lv, l, snd⟩ := o
  dsimp only at hk esl HSL HLL ⊢
  subst esl
  clear h htw hls hA hl hfp hL
  subst hk
  obtain ⟨t, ht⟩ : ∃ t, decide (findN (nk x) A = some x) = t := ⟨_, rfl⟩
  have HT1 := hid_mk ht
  have HT2 := hid_mk (show decide (x ∈ A) = t by rw [← ht, decide_eq_decide]; exact (findN_mem HTW.out x).symm)
  have htt : (t == t) = true := by simp
  clear ht
  go_enter Try.func12, Try.ntmps12
  go_wp2_with fail
  refine gen_codeH (fun W1 => OpBox w W1 1 nd x (.slice sla l.length slc)) (opBox_new w 1 nd x (.slice sla l.length slc) snd) ?_
  intro W1 hob
  have HOB := hid_mk hob
  have HX1 := hid_mk hob.ex
  have hxz := hob.sz
  obtain ⟨-, -, c0, c1, c2, c3, c4, c5, c6, c7⟩ := hob
  obtain ⟨xb, hxb⟩ : ∃ xb, w.heap.size = xb := ⟨_, rfl⟩
  rw [hxb] at hnb hxz c0 c1 c2 c3 c4 c5 c6 c7 ⊢
  have HXB := hid_mk hxb
  clear hxb
  refine wp_region_held_below (fun _ => true) (.quiet 0 (.quiet 1 (.quiet 2 (.quiet 4 (.quiet 5 (.quiet 6 (.alt 3 (.alt 7 (.quiet 8 (.quiet 9 .done)) .stop) .stop))))))) (by kernel_rfl) (by kernel_rfl) (by intro c a w d v h; cases d <;> exact h) (fun ops HO => ?_)
  refine plan_read _ (hi_of HO rfl) rfl (fun w' hE => by (repeat (with_reducible replace hE := Ext.unD hE)); have hcE := hE.hc; clear hE; go_simp; rfl) ?_
  simp only [Act.put, List.setIfInBounds_toArray, List.set_cons_succ, List.set_cons_zero]
  refine plan_read _ (hi_of HO rfl) rfl (fun w' hE => by (repeat (with_reducible replace hE := Ext.unD hE)); have hcE := hE.hc; clear hE; go_simp; rfl) ?_
  simp only [Act.put, List.setIfInBounds_toArray, List.set_cons_succ, List.set_cons_zero]
  refine plan_read _ (hi_of HO rfl) rfl (fun w' hE => by (repeat (with_reducible replace hE := Ext.unD hE)); have hcE := hE.hc; clear hE; go_simp; rfl) ?_
  simp only [Act.put, List.setIfInBounds_toArray, List.set_cons_succ, List.set_cons_zero]
  refine plan_read _ (hi_of HO rfl) rfl (fun w' hE => by (repeat (with_reducible replace hE := Ext.unD hE)); have hcE := hE.hc; clear hE; go_simp; rfl) ?_
  simp only [Act.put, List.setIfInBounds_toArray, List.set_cons_succ, List.set_cons_zero]
  refine plan_read _ (hi_of HO rfl) rfl (fun w' hE => by (repeat (with_reducible replace hE := Ext.unD hE)); have hcE := hE.hc; clear hE; go_simp; rfl) ?_
  simp only [Act.put, List.setIfInBounds_toArray, List.set_cons_succ, List.set_cons_zero]
  refine plan_read _ (hi_of HO rfl) rfl (fun w' hE => by (repeat (with_reducible replace hE := Ext.unD hE)); have hcE := hE.hc; clear hE; go_simp; rfl) ?_
  simp only [Act.put, List.setIfInBounds_toArray, List.set_cons_succ, List.set_cons_zero]
  refine plan_call1 en_GhWritten (hi_of HO rfl) rfl rfl (by go_simp; rfl) (by exact written_any (H.out.ext (Ext.drew HX1.out)).g x) ?_
  rintro e w3 ⟨rfl, hx3⟩
  rw [HT1.out]
  have HX3 := hid_mk hx3
  have HX13 := hid_mk (Ext.trans _ _ _ (Ext.drew (Ext.refl W1)) hx3)
  have d2 := cell_ext HX13.out c2
  have d3 := cell_ext HX13.out c3
  have d4 := cell_ext HX13.out c4
  have d5 := cell_ext HX13.out c5
  have d6 := cell_ext HX13.out c6
  have dl := cell_lt d2
  refine ⟨_, rfl, (fun _ => HX3.out), ?_⟩
  simp only [Act.put, List.setIfInBounds_toArray, List.set_cons_succ, List.set_cons_zero]
  clear hx3
  refine plan_call1 en_rGhWritten (hi_of HO rfl) rfl rfl (by go_simp; rfl) (by exact rwritten_any (H.out.ext (Ext.trans _ _ _ HX1.out HX13.out)).d x HAL.out) ?_
  rintro e w7 ⟨rfl, hx7⟩
  rw [HT2.out]
  have HX7 := hid_mk hx7
  refine ⟨_, rfl, (fun _ => HX7.out), ?_⟩
  simp only [Act.put, List.setIfInBounds_toArray, List.set_cons_succ, List.set_cons_zero]
  clear hx7
  refine plan_read _ (hi_of HO rfl) rfl (fun w' hE => by (repeat (with_reducible replace hE := Ext.unD hE)); have hcE := hE.hc; clear hE; go_simp; rfl) ?_
  simp only [Act.put, List.setIfInBounds_toArray, List.set_cons_succ, List.set_cons_zero]
  refine plan_read _ (hi_of HO rfl) rfl (fun w' hE => by (repeat (with_reducible replace hE := Ext.unD hE)); have hcE := hE.hc; clear hE; go_simp; rfl) ?_
  simp only [Act.put, List.setIfInBounds_toArray, List.set_cons_succ, List.set_cons_zero]
  refine plan_done ?fin102
  go_wp2
  go_ret
  exact ⟨rfl, gdpost_ext H.out (Ext.trans _ _ _ HX1.out (Ext.trans _ _ _ HX13.out HX7.out))⟩
theorem gstep_none {B : Nat} {w : World} {gb mb : Nat} {sv : Nat → Value} {A : List Ent} {ls : Nat → List Ent} {rb : Nat} {rv : Value} {sr : Nat → Value} (h : Gd B w gb mb sv A ls rb rv sr A ls) (htw : NoTw A) (hls : LsB ls) (hA : A.length ≤ 100000000) (o : GOp) (hs : EntSl w o.lv o.l) (hl : o.l.length ≤ 4194304) (hk0 : ¬ o.k = 0) (hk1 : ¬ o.k = 1) (hk2 : ¬ o.k = 2) (hk3 : ¬ o.k = 3) :
    Calls Try.prog 12 #[.pointer (some ⟨gb, 0, none⟩), .pointer (some ⟨rb, 0, none⟩), gopV o] w fun e w' => e = .returned (.bool true) ∧ GdPost B w gb mb sv rb rv sr A ls A ls w' := by
  have H := hid_mk h
  obtain ⟨sla, slc, esl, -⟩ := hs
  obtain ⟨k, nd, x, lv, l, snd⟩ := o
  dsimp only at hk0 hk1 hk2 hk3 esl ⊢
  subst esl
  have e0 : (k == 0) = false := by simpa using hk0
  have e1 : (k == 1) = false := by simpa using hk1
  have e2 : (k == 2) = false := by simpa using hk2
  have e3 : (k == 3) = false := by simpa using hk3
  clear h
  go_enter Try.func12, Try.ntmps12
  go_wp2
  go_ret
  exact ⟨rfl, gdpost_ext H.out (by (repeat (first | exact Ext.refl _ | apply Ext.drew_left | apply Ext.drew | apply Ext.alloc)))⟩
theorem gstep_held {B : Nat} {w : World} {gb mb : Nat} {sv : Nat → Value} {A : List Ent} {ls : Nat → List Ent} {rb : Nat} {rv : Value} {sr : Nat → Value} (h : Gd B w gb mb sv A ls rb rv sr A ls) (htw : NoTw A) (hls : LsB ls) (hA : A.length ≤ 100000000) (o : GOp) (hs : EntSl w o.lv o.l) (hl : o.l.length ≤ 4194304) (hk : o.k = 3) :
    Calls Try.prog 12 #[.pointer (some ⟨gb, 0, none⟩), .pointer (some ⟨rb, 0, none⟩), gopV o] w fun e w' => e = .returned (.bool true) ∧ GdPost B w gb mb sv rb rv sr A ls A ls w' := by
  have H := hid_mk h
  have HTW := hid_mk htw
  have HLS := hid_mk hls
  have HAL := hid_mk hA
  have HSL := hid_mk hs
  have HLL := hid_mk hl
  have hfp := fun x hx => (h.fp_lt x hx).2
  obtain ⟨L, hL⟩ : ∃ L, fpG gb mb rb rv = L := ⟨_, rfl⟩
  rw [hL] at hfp
  have hnb : w.heap.size ∉ L := fun hm => by have := hfp _ hm; omega
  have HLE := hid_mk hL
  obtain ⟨sla, slc, esl, -⟩ := hs
  obtain ⟨k, nd, x, lv, l, snd⟩ := o
  dsimp only at hk esl HSL HLL ⊢
  subst esl
  clear h htw hls hA hl hfp hL
  subst hk
  have HLD := hid_mk (show (heldL nd ls).length ≤ 4194304 by
    unfold heldL
    split
    · rename_i hn
      obtain ⟨j, hj, rfl⟩ := isNd_at hn
      rw [Int.toNat_natCast]
      exact (HLS.out j hj).2
    · simp)
  go_enter Try.func12, Try.ntmps12
  go_wp2_with fail
  refine gen_calls' (fun W1 => OpBox w W1 3 nd x (.slice sla l.length slc)) (opBox_new w 3 nd x (.slice sla l.length slc) snd) ?_
  intro W1 hob
  have HOB := hid_mk hob
  have HX1 := hid_mk hob.ex
  have hxz := hob.sz
  obtain ⟨-, -, c0, c1, c2, c3, c4, c5, c6, c7⟩ := hob
  obtain ⟨xb, hxb⟩ : ∃ xb, w.heap.size = xb := ⟨_, rfl⟩
  rw [hxb] at hnb hxz c0 c1 c2 c3 c4 c5 c6 c7 ⊢
  have HXB := hid_mk hxb
  clear hxb
  refine (gheld_any (H.out.ext HX1.out).g nd (fun i hi => Nat.le_trans (HLS.out i hi).2 (by omega))).mono ?_
  rintro e w2 ⟨va, rfl, hna, hsa, hx2⟩
  have HNA := hid_mk (And.intro hna hsa)
  have HX2 := hid_mk hx2
  have d1 := cell_ext hx2 c1
  have dl1 := cell_lt d1
  clear hna hsa hx2
  go_wp2_with fail
  refine (gheld_any (H.out.ext (Ext.trans _ _ _ HX1.out HX2.out)).g nd (fun i hi => Nat.le_trans (HLS.out i hi).2 (by omega))).mono ?_
  rintro e w3 ⟨vb, rfl, hnb3, -, hx3⟩
  have HNB := hid_mk hnb3
  have HX3 := hid_mk hx3
  replace d1 := cell_ext hx3 d1
  replace dl1 := cell_lt d1
  clear hnb3 hx3
  go_wp2_with fail
  refine (rheld_any (H.out.ext (Ext.trans _ _ _ (Ext.trans _ _ _ HX1.out HX2.out) HX3.out)).d nd (fun i hi => Nat.le_trans (HLS.out i hi).2 (by omega))).mono ?_
  rintro e w4 ⟨vc, rfl, hnc, hx4⟩
  have HNC := hid_mk hnc
  have HX4 := hid_mk hx4
  clear hnc hx4 d1 dl1
  obtain ⟨L0, hL0⟩ : ∃ L0, heldL nd ls = L0 := ⟨_, rfl⟩
  rw [hL0] at HNA HNB HNC HLD
  clear hL0
  have HA4 := hid_mk (HNA.out.1.1.ext (Ext.trans _ _ _ HX3.out HX4.out))
  have HB4 := hid_mk (HNB.out.1.ext HX4.out)
  obtain ⟨aa, ac, rfl, -⟩ := HNA.out.1.1
  obtain ⟨ba, bc, rfl, -⟩ := HNB.out.1
  obtain ⟨ca, cc, rfl, -⟩ := HNC.out.1
  go_wp2_with fail
  refine (ghSame_any _ _ L0 L0 HA4.out HNC.out.1).mono ?_
  rintro e w5 ⟨rfl, hx5⟩
  rw [show decide (L0 = L0) = true from decide_eq_true rfl]
  have HX5 := hid_mk hx5
  clear hx5
  go_wp2_with fail
  refine (ghSame_any _ _ L0 L0 (HB4.out.ext HX5.out) (HNC.out.1.ext HX5.out)).mono ?_
  rintro e w6 ⟨rfl, hx6⟩
  rw [show decide (L0 = L0) = true from decide_eq_true rfl]
  have HX6 := hid_mk (Ext.trans _ _ _ HX5.out hx6)
  clear hx6
  go_wp2_with fail
  obtain ⟨J, hJ⟩ : ∃ J : List Nat, (∀ S, aa = some ⟨S, 0, none⟩ → ac ≠ 0 → S ∈ J) ∧ ∀ y ∈ J, W1.heap.size ≤ y ∧ y < w2.heap.size := by
    obtain ⟨a', n', c', e1, -, h3 | ⟨S, cur, h3, h4, h5, -⟩⟩ := HNA.out.2
    · cases e1
      exact ⟨[], fun S e h => absurd h3 h, by simp⟩
    · cases e1
      subst h3
      exact ⟨[S], fun S' e _ => by cases e; simp, by simp; exact ⟨h4, (Array.getElem?_eq_some_iff.1 h5).1⟩⟩
  have HJ := hid_mk hJ
  clear hJ
  refine (ghSpoil_any (B := W1.heap.size) (HNA.out.2.ext (Ext.trans _ _ _ (Ext.trans _ _ _ HX3.out HX4.out) HX6.out)) J HJ.out.1 (by have := HLD.out; omega) (Nat.le_trans (Nat.le_trans HX2.out.below.size HX3.out.below.size) (Nat.le_trans HX4.out.below.size HX6.out.below.size))).mono ?_
  rintro e w7 ⟨⟨vs, rfl⟩, hx7⟩
  have HX7 := hid_mk hx7
  have hz3 := HX3.out.below.size
  have HB7 := hid_mk ((HB4.out.ext HX6.out).xl hx7 (fun b o n c e hn hm => by
    have := HNB.out.2 b o n c e hn
    have := (HJ.out.2 b hm).2
    omega))
  have HC7 := hid_mk ((HNC.out.1.ext HX6.out).xl hx7 (fun b o n c e hn hm => by
    have := HNC.out.2 b o n c e hn
    have := (HJ.out.2 b hm).2
    omega))
  clear hx7
  go_wp2_with fail
  refine (ghSame_any _ _ L0 L0 HB7.out HC7.out).mono ?_
  rintro e w8 ⟨rfl, hx8⟩
  rw [show decide (L0 = L0) = true from decide_eq_true rfl]
  have hz1 := HX1.out.below.size
  have hP := gdpost_junk H.out (Ext.trans _ _ _ (Ext.trans _ _ _ HX1.out HX2.out) (Ext.trans _ _ _ (Ext.trans _ _ _ HX3.out HX4.out) HX6.out)) (gdpost_ext (H.out.ext (Ext.trans _ _ _ (Ext.trans _ _ _ HX1.out HX2.out) (Ext.trans _ _ _ (Ext.trans _ _ _ HX3.out HX4.out) HX6.out))) (Ext.refl _)) HX7.out (fun y hy => by
    have h1 := HJ.out.2 y hy
    have h2 := HX4.out.below.size
    have h3 := HX6.out.below.size
    omega)
  have HP := hid_mk (hP.cat (fun sv1 rv1 sr1 g => gdpost_ext g hx8))
  clear hx8 hP
  go_wp2
  go_ret
  exact ⟨rfl, HP.out⟩
end Go.Proofs.Ytiimoaplhhnklaa
