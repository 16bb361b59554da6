/- Ghosts: one step of a script, at both: Sees; every step. -/
import Derived.Test.YtiimoaplhhnklaaHX
import Derived.Test.YtiimoaplhhnklaaHH
namespace Go.Proofs.Ytiimoaplhhnklaa
open Go.RowKit
set_option maxHeartbeats 8000000
set_option maxRecDepth 100000
set_option linter.unusedSimpArgs false
set_option linter.unusedVariables false
attribute [local go_sem ↓] eql_entE neq_entE

/-- A slice of old memory. -/
def EOld (B : Nat) (v : Value) : Prop := ∀ b o n c, v = .slice (some ⟨b, o, none⟩) n c → 0 < n → b < B
theorem EOld.away {B : Nat} {v : Value} {L : List Nat} (h : EOld B v) (hL : ∀ x ∈ L, B ≤ x) : EAway L v := fun b o n c e hn hm => by
  have := h b o n c e hn
  have := hL b hm
  omega
theorem EntSl.old {w : World} {v : Value} {l : List Ent} (h : EntSl w v l) : EOld w.heap.size v := fun b o n c e hn => by
  obtain ⟨a, c', rfl, h2, h3, h4⟩ := h
  cases e
  obtain ⟨b', o', e, h6⟩ := h4 hn
  cases e
  exact cell_lt (h6 0 hn).c0
theorem gstep_sees {B : Nat} {w : World} {gb mb : Nat} {sv : Nat → Value} {A : List Ent} {ls : Nat → List Ent} {rb : Nat} {rv : Value} {sr : Nat → Value} (h : Gd B w gb mb sv A ls rb rv sr A ls) (htw : NoTw A) (hls : LsB ls) (hA : A.length ≤ 100000000) (o : GOp) (hs : EntSl w o.lv o.l) (hl : o.l.length ≤ 4194304) (hold : EOld B o.lv) (hk : o.k = 2) :
    Calls Try.prog 12 #[.pointer (some ⟨gb, 0, none⟩), .pointer (some ⟨rb, 0, none⟩), gopV o] w fun e w' => e = .returned (.bool true) ∧ GdPost B w gb mb sv rb rv sr A (seesLs o.nd o.l A ls) A (seesLs o.nd o.l A ls) w' := by
  have H := hid_mk h
  have HTW := hid_mk htw
  have HLS := hid_mk hls
  have HAL := hid_mk hA
  have HSL := hid_mk hs
  have HLL := hid_mk hl
  have hfp := fun x hx => (h.fp_lt x hx).2
  obtain ⟨L, hL⟩ : ∃ L, fpG gb mb rb rv = L := ⟨_, rfl⟩
  rw [hL] at hfp
  have hnb : w.heap.size ∉ L := fun hm => by have := hfp _ hm; omega
  have HLE := hid_mk hL
  obtain ⟨sla, slc, esl, -⟩ := hs
  obtain ⟨k, nd, x, lv, l, snd⟩ := o
  dsimp only at hk esl HSL HLL ⊢
  subst esl
  clear h htw hls hA hl hfp hL
  subst hk
  obtain ⟨r, hr⟩ : ∃ r, seesR nd l A ls = r := ⟨_, rfl⟩
  have HR := hid_mk hr
  have HOLD := hid_mk (EOld.away (L := L) hold (fun x hx => by rw [← HLE.out] at hx; exact (H.out.fp_lt x hx).1))
  clear hr hold
  go_enter Try.func12, Try.ntmps12
  go_wp2_with fail
  refine gen_calls' (fun W1 => OpBox w W1 2 nd x (.slice sla l.length slc)) (opBox_new w 2 nd x (.slice sla l.length slc) snd) ?_
  intro W1 hob
  have HOB := hid_mk hob
  have HX1 := hid_mk hob.ex
  have hxz := hob.sz
  obtain ⟨-, -, c0, c1, c2, c3, c4, c5, c6, c7⟩ := hob
  obtain ⟨xb, hxb⟩ : ∃ xb, w.heap.size = xb := ⟨_, rfl⟩
  rw [hxb] at hnb hxz c0 c1 c2 c3 c4 c5 c6 c7 ⊢
  have HXB := hid_mk hxb
  clear hxb
  refine (ghLent_any l _ (HSL.out.ext HX1.out) (by have := HLL.out; omega)).mono ?_
  rintro e w2 ⟨v, rfl, how, hx2⟩
  obtain ⟨g, c, rfl, h1, h2, h3, h4, h5⟩ := ownE_at how (by simp [gmarks])
  have hlen : (l ++ gmarks).length = l.length + 2 := by simp [gmarks]
  have HPRE := hid_mk (show EntSl w2 (.slice (some ⟨g, 0, none⟩) l.length c) l from ⟨_, c, rfl, by omega, by have := HLL.out; omega, fun hp => ⟨g, 0, rfl, fun i hi => by
    have := h5 i (by omega)
    rw [List.getElem_append_left hi] at this
    rw [Nat.zero_add]
    exact this⟩⟩)
  have HOW := hid_mk how
  rw [hlen] at h1 ⊢
  have HX2 := hid_mk hx2
  have HG := hid_mk (And.intro h3 h4)
  have d1 := cell_ext hx2 c1
  have d7 := cell_ext hx2 c7
  have dl := cell_lt d1
  have hq1 : l.length ≤ c := by omega
  have hq2 : (l.length : Int) ≤ (c : Int) := by omega
  have hq3 : (0 : Int) ≤ (l.length : Int) := by omega
  have HLSb := hid_mk (show ∀ i, i < 8 → mChk (ls i) = 0 ∧ (ls i).length ≤ 1073741824 from fun i hi => ⟨(HLS.out i hi).1, Nat.le_trans (HLS.out i hi).2 (by omega)⟩)
  clear how hx2 h2 h3 h4 h5 hlen
  go_wp2_with fail
  refine wp_region_held_planC Ext (fun i => i != 8) (fun i => [0, 1, 3, 4, 7, 9, 10, 11, 12, 13].contains i) (.quiet 0 (.quiet 1 (.quiet 2 (.quiet 3 (.quiet 4 (.alt 5 (.alt 6 (.quiet 7 (.alt 8 (.quiet 9 (.quiet 10 (.quiet 11 (.quiet 12 (.quiet 13 .done))))) .stop)) .stop) .stop)))))) (by kernel_rfl) (by kernel_rfl) Ext.refl Ext.trans (by intro c a w d v h; cases d <;> exact h) (fun ops HO => ?_)
  refine planC_calm _ (hi_of HO rfl) rfl (fun w' => by go_simp; rfl) ?_
  simp only [Act.put, List.setIfInBounds_toArray, List.set_cons_succ, List.set_cons_zero]
  refine planC_calm _ (hi_of HO rfl) rfl (fun w' => by go_simp; rfl) ?_
  simp only [Act.put, List.setIfInBounds_toArray, List.set_cons_succ, List.set_cons_zero]
  refine planC_read _ (hi_of HO rfl) rfl rfl (fun w' hE => by (repeat (with_reducible replace hE := Ext.unD hE)); have hcE := hE.hc; clear hE; go_simp; rfl) ?_
  simp only [Act.put, List.setIfInBounds_toArray, List.set_cons_succ, List.set_cons_zero]
  refine planC_calm _ (hi_of HO rfl) rfl (fun w' => by go_simp; rfl) ?_
  simp only [Act.put, List.setIfInBounds_toArray, List.set_cons_succ, List.set_cons_zero]
  refine planC_calm _ (hi_of HO rfl) rfl (fun w' => by go_simp; rfl) ?_
  simp only [Act.put, List.setIfInBounds_toArray, List.set_cons_succ, List.set_cons_zero]
  refine planC_loud1 (hi_of HO rfl) rfl ?_
  go_simp
  refine ⟨by (repeat (first | exact Ext.refl _ | apply Ext.drew_left | apply Ext.drew | apply Ext.alloc)), ?_⟩
  refine planC_loud1 (hi_of HO rfl) rfl ?_
  go_simp
  refine ⟨by (repeat (first | exact Ext.refl _ | apply Ext.drew_left | apply Ext.drew | apply Ext.alloc)), ?_⟩
  refine planC_calm _ (hi_of HO rfl) rfl (fun w' => by go_simp; rfl) ?_
  simp only [Act.put, List.setIfInBounds_toArray, List.set_cons_succ, List.set_cons_zero]
  refine planC_call1 en_GhSees (hi_of HO rfl) rfl rfl (by go_simp; rfl) (by exact gsees_any (H.out.ext (Ext.trans _ _ _ (Ext.trans _ _ _ HX1.out HX2.out) ((Ext.refl w2).drew))).g HLSb.out nd _ l (HPRE.out.ext ((Ext.refl w2).drew)) (by have := HLL.out; omega)) ?_
  rintro e w3 ⟨rfl, hp3⟩
  rw [HR.out]
  obtain ⟨sv3, hg3, hx3, hn3⟩ := (H.out.ext (Ext.trans _ _ _ (Ext.trans _ _ _ HX1.out HX2.out) ((Ext.refl w2).drew))).wg1 hp3
  have HG3 := hid_mk hg3
  have HN3 := hid_mk hn3
  have HX3' := hid_mk hx3
  rw [HLE.out] at hx3
  have HX3 := hid_mk hx3
  clear hp3 hx3 hg3 hn3
  refine ⟨_, rfl, (fun h => absurd h (by decide)), ?_⟩
  simp only [Act.put, List.setIfInBounds_toArray, List.set_cons_succ, List.set_cons_zero]
  refine planC_calm _ (hi_of HO rfl) rfl (fun w' => by go_simp; rfl) ?_
  simp only [Act.put, List.setIfInBounds_toArray, List.set_cons_succ, List.set_cons_zero]
  refine planC_calm _ (hi_of HO rfl) rfl (fun w' => by go_simp; rfl) ?_
  simp only [Act.put, List.setIfInBounds_toArray, List.set_cons_succ, List.set_cons_zero]
  refine planC_calm _ (hi_of HO rfl) rfl (fun w' => by go_simp; rfl) ?_
  simp only [Act.put, List.setIfInBounds_toArray, List.set_cons_succ, List.set_cons_zero]
  refine planC_calm _ (hi_of HO rfl) rfl (fun w' => by go_simp; rfl) ?_
  simp only [Act.put, List.setIfInBounds_toArray, List.set_cons_succ, List.set_cons_zero]
  refine planC_calm _ (hi_of HO rfl) rfl (fun w' => by go_simp; rfl) ?_
  simp only [Act.put, List.setIfInBounds_toArray, List.set_cons_succ, List.set_cons_zero]
  refine planC_done ?fin101
  have HS3 := hid_mk ((HSL.out.ext (Ext.trans _ _ _ (Ext.trans _ _ _ HX1.out HX2.out) ((Ext.refl w2).drew))).xl HX3.out HOLD.out)
  replace d1 := (xl_hc HX3.out dl hnb 1).trans d1
  replace d7 := (xl_hc HX3.out dl hnb 7).trans d7
  replace dl := cell_lt d1
  go_wp2_with fail
  refine (rsees_any HG3.out.d HAL.out HTW.out (fun i hi => ⟨(HLS.out i hi).1, Nat.le_trans (HLS.out i hi).2 (by omega)⟩) nd _ l HS3.out (by have := HLL.out; omega)).mono ?_
  rintro e w4 ⟨rfl, hp4⟩
  rw [HR.out]
  have hx4 : Xl L w3 w4 := by
    obtain ⟨_, _, -, h2, -⟩ := hp4
    exact h2.mono' (fun x hx => by rw [← HLE.out]; exact List.mem_append_right _ hx)
  have HX4 := hid_mk hx4
  have HP4 := hid_mk (GdPost.then HX3'.out (fun x hx => .inl hx) HN3.out (SvNew.refl _ _) (HG3.out.wd hp4))
  replace d1 := (hx4.cell dl hnb).trans d1
  replace d7 := (hx4.cell dl hnb).trans d7
  replace dl := cell_lt d1
  have HS4 := hid_mk (HS3.out.xl hx4 HOLD.out)
  have hgn : g ∉ L := fun hm => by
    rw [← HLE.out] at hm
    have h1 := (H.out.fp_lt g hm).2
    have h2 := HX1.out.below.size
    have h3 := HG.out
    omega
  have HOW4 := hid_mk (OwEn.xl hx4 (by intro x hx; cases hx; exact hgn) (OwEn.xl HX3.out (by intro x hx; cases hx; exact hgn) (HOW.out.ext ((Ext.refl w2).drew))))
  have hzz : W1.heap.size ≤ w4.heap.size := Nat.le_trans HX2.out.below.size (Nat.le_trans HX3.out.size HX4.out.size)
  clear hp4 hx4 hgn
  go_wp2_with fail
  have hst := ghStill_any HOW4.out HS4.out (by have := HLL.out; omega) hzz
  rw [show (l ++ gmarks).length = l.length + 2 by simp [gmarks]] at hst
  refine hst.mono ?_
  rintro e w5 ⟨rfl, hx5⟩
  have HP := hid_mk (gdpost_junk H.out (Ext.trans _ _ _ (Ext.trans _ _ _ HX1.out HX2.out) ((Ext.refl w2).drew)) HP4.out hx5 (fun y hy => by
    simp [Value.ownBlock] at hy
    subst hy
    have h2 := HX1.out.below.size
    have h3 := HG.out
    exact ⟨by omega, h3.2⟩))
  clear hx5 hst
  go_wp2
  go_ret
  exact ⟨rfl, HP.out⟩
theorem gstep_any {B : Nat} {w : World} {gb mb : Nat} {sv : Nat → Value} {A : List Ent} {ls : Nat → List Ent} {rb : Nat} {rv : Value} {sr : Nat → Value} (h : Gd B w gb mb sv A ls rb rv sr A ls) (htw : NoTw A) (hls : LsB ls) (hA : A.length ≤ 100000000) (o : GOp) (hs : EntSl w o.lv o.l) (hl : o.l.length ≤ 4194304) (hold : EOld B o.lv) :
    Calls Try.prog 12 #[.pointer (some ⟨gb, 0, none⟩), .pointer (some ⟨rb, 0, none⟩), gopV o] w fun e w' => e = .returned (.bool true) ∧ GdPost B w gb mb sv rb rv sr (gstepA o A) (gstepL o A ls) (gstepA o A) (gstepL o A ls) w' := by
  unfold gstepA gstepL
  by_cases h0 : o.k = 0
  · rw [if_pos h0, if_neg (by omega)]
    exact gstep_wrote h htw hls hA o hs hl h0
  by_cases h1 : o.k = 1
  · rw [if_neg h0, if_neg (by omega)]
    exact gstep_written h htw hls hA o hs hl h1
  by_cases h2 : o.k = 2
  · rw [if_neg h0, if_pos h2]
    exact gstep_sees h htw hls hA o hs hl hold h2
  rw [if_neg h0, if_neg h2]
  by_cases h3 : o.k = 3
  · exact gstep_held h htw hls hA o hs hl h3
  · exact gstep_none h htw hls hA o hs hl h0 h1 h2 h3
theorem gstepA_len (o : GOp) (A : List Ent) : (gstepA o A).length ≤ A.length + 1 := by
  unfold gstepA wroteA
  split
  · split
    · omega
    · split
      · omega
      · simp
  · omega
theorem gstepA_tw (o : GOp) {A : List Ent} (h : NoTw A) : NoTw (gstepA o A) := by
  unfold gstepA
  split
  · exact noTw_wrote h
  · exact h
theorem gstepL_b (o : GOp) {A : List Ent} {ls : Nat → List Ent} (h : LsB ls) (hl : o.l.length ≤ 4194304) : LsB (gstepL o A ls) := by
  unfold gstepL seesLs
  split
  · split
    · rename_i ho
      obtain ⟨h1, h2, -⟩ := seesO_none ho
      intro i hi
      unfold upd
      split
      · exact ⟨h2, hl⟩
      · exact h i hi
    · exact h
  · exact h
end Go.Proofs.Ytiimoaplhhnklaa
