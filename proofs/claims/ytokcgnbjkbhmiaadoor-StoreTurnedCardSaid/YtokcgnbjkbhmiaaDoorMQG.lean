/- Stores: write, Put, Delete. Stores: Load and New. -/
import Derived.Test.YtokcgnbjkbhmiaaDoorMQD
namespace Go.Proofs.YtokcgnbjkbhmiaaDoor
open Go.RowKit Go.Lib
set_option maxHeartbeats 4000000
set_option maxRecDepth 100000
set_option linter.unusedSimpArgs false
set_option linter.unusedVariables false
theorem en_stWrite0 : Enters Tryd.prog 68 := ⟨_, Tryd.func68, by kernel_rfl, rfl⟩
theorem en_stPut : Enters Tryd.prog 33 := ⟨_, Tryd.func33, by kernel_rfl, rfl⟩
theorem en_stDelete : Enters Tryd.prog 31 := ⟨_, Tryd.func31, by kernel_rfl, rfl⟩
/-- A variable of the call's own that holds a version. -/
structure VrB (w : World) (b : Nat) (c d : Int) : Prop where
  b : w.heap[b]? = some (.cells #[.int .i64 c, .int .i64 d] 55 (0, 0))
namespace VrB
variable {w w' : World} {b : Nat} {c d : Int}
theorem c0 (h : VrB w b c d) : w.cell? ⟨b, 0, none⟩ = some (.int .i64 c) := by simp [World.cell?, h.b]
theorem c1 (h : VrB w b c d) : w.cell? ⟨b, 1, none⟩ = some (.int .i64 d) := by simp [World.cell?, h.b]
theorem f (h : VrB w b c d) (o : Nat) : w.frozen? ⟨b, o, none⟩ = false := by simp [World.frozen?, h.b]
theorem lt (h : VrB w b c d) : b < w.heap.size := (Array.getElem?_eq_some_iff.1 h.b).1
theorem ext (h : VrB w b c d) (hx : Ext w w') : VrB w' b c d := ⟨(hx.below.block b h.lt).trans h.b⟩
theorem xl {L : List Nat} (h : VrB w b c d) (hx : Xl L w w') (hn : b ∉ L) : VrB w' b c d := ⟨(hx.block b h.lt hn).trans h.b⟩
theorem new (w : World) (c d : Int) : VrB (w.alloc (.cells #[.int .i64 c, .int .i64 d] 55)) w.heap.size c d := ⟨heap_alloc_new w _⟩
theorem setAll {x y : Int} (h : VrB w b x y) : VrB ((w.setCell ⟨b, 0, none⟩ (.int .i64 c)).setCell ⟨b, 1, none⟩ (.int .i64 d)) b c d := ⟨by rw [heap_setCell_same _ _ _ _ _ _ (heap_setCell_same _ _ _ _ _ _ h.b)]; rfl⟩
end VrB
theorem EnB4.xl {L : List Nat} {w w' : World} {b : Nat} {x : V4} (h : EnB4 w b x) (hx : Xl L w w') (hn : b ∉ L) : EnB4 w' b x := ⟨(hx.block b h.lt hn).trans h.b⟩
theorem EnB4.setV {w : World} {b : Nat} {x : V4} {c d : Int} (h : EnB4 w b x) : EnB4 ((w.setCell ⟨b, 1, none⟩ (.int .i64 c)).setCell ⟨b, 2, none⟩ (.int .i64 d)) b ⟨x.key, c, d, x.val, x.dead⟩ := ⟨by rw [heap_setCell_same _ _ _ _ _ _ (heap_setCell_same _ _ _ _ _ _ h.b)]; rfl⟩
section
variable {w : World} {sb mb tb n : Nat} {s : St}
theorem StPost.off {w w' w2 : World} {sb mb tb n b : Nat} {s s' : St} (h : StPost w sb mb tb n s s' w') (h0 : StW w sb mb tb n s) (hX : Xl [b] w' w2) (hb : w.heap.size ≤ b) (hq : NoNode w' b) : StPost w sb mb tb n s s' w2 := by
  obtain ⟨h1, n', h2, h3⟩ := h
  have a1 := h0.lt
  have a2 := h0.mlt
  have a3 := h0.tlt
  exact ⟨xl_off h1 hX (by simpa using hb), n', h2.away hX (by simp; omega) (by simp; omega) (by simp; omega) (by intro c hc; rw [List.mem_singleton.1 hc]; exact hq), h3⟩
theorem noVr {w : World} {b : Nat} {c d : Int} (h : VrB w b c d) : NoNode w b := fun k v s sm pl pr n' h' q => by have h1 := q.c4; simp [World.cell?, h.b] at h1
theorem stWrite_any (k v : ByteArray) (d : Bool) (h : StW w sb mb tb n s) (hok : StOk s) (hl : LanesAt w) : Calls Tryd.prog 68 #[.pointer (some ⟨sb, 0, none⟩), .agg #[.string k, .int .i64 0, .int .i64 0, .string v, .bool d]] w fun r w' =>
    r = .returned (.tuple #[.agg #[.int .i64 (wrV s k v).1, .int .i64 (wrV s k v).2], .int .i64 (wrE s k v)]) ∧ StPost w sb mb tb n s (wrS s k v d) w' := by
  have HS0 := hid_mk h
  have HL := hid_mk hl
  have HOK := hid_mk hok
  clear h hl hok
  by_cases h1 : 16 < (k.size : Int)
  · have HE := hid_mk (show wrE s k v = 20 by unfold wrE; rw [if_pos h1])
    go_enter Tryd.func68, Tryd.ntmps68
    go_wp2
    refine bodyPost_ret (v := .tuple #[.agg #[.int .i64 0, .int .i64 0], .int .i64 20]) (by unfold results; rw [Tryd.results68]; go_simp; first | done | rfl) rfl ⟨by rw [wrV, if_neg (by rw [HE.out]; decide), HE.out], ?_⟩
    rw [wrS, if_neg (by rw [HE.out]; decide)]
    exact StPost.still HS0.out (by (repeat (first | exact Ext.refl _ | apply Ext.drew_left | apply Ext.drew | apply Ext.alloc)))
  by_cases h2 : 32 < (v.size : Int)
  · have HE := hid_mk (show wrE s k v = 31 by unfold wrE; rw [if_neg h1, if_pos h2])
    go_enter Tryd.func68, Tryd.ntmps68
    go_wp2
    refine bodyPost_ret (v := .tuple #[.agg #[.int .i64 0, .int .i64 0], .int .i64 31]) (by unfold results; rw [Tryd.results68]; go_simp; first | done | rfl) rfl ⟨by rw [wrV, if_neg (by rw [HE.out]; decide), HE.out], ?_⟩
    rw [wrS, if_neg (by rw [HE.out]; decide)]
    exact StPost.still HS0.out (by (repeat (first | exact Ext.refl _ | apply Ext.drew_left | apply Ext.drew | apply Ext.alloc)))
  have HN := hid_mk (And.intro h1 h2)
  go_enter Tryd.func68, Tryd.ntmps68
  go_wp2_with fail
  refine gen_callsT (fun W => EnB4 W w.heap.size ⟨k, 0, 0, v, d⟩ ∧ VrB W (w.heap.size + 1) 0 0 ∧ Ext w W) ⟨?_, ?_, by (repeat (first | exact Ext.refl _ | apply Ext.drew_left | apply Ext.drew | apply Ext.alloc))⟩ ?_
  · exact (EnB4.new w ⟨k, 0, 0, v, d⟩).ext (by (repeat (first | exact Ext.refl _ | apply Ext.drew_left | apply Ext.drew | apply Ext.alloc)))
  · have h := VrB.new (w.alloc (.cells #[.string k, .int .i64 0, .int .i64 0, .string v, .bool d] 57)) 0 0
    rw [World.size_alloc] at h
    exact h
  rintro W ⟨hb, hv, hxW⟩
  refine (stFull_any k (HS0.out.ext hxW)).mono ?_
  rintro r W2 ⟨rfl, hx2⟩
  have HB := hid_mk (hb.ext hx2)
  have HV := hid_mk (hv.ext hx2)
  have HX := hid_mk (Ext.trans _ _ _ hxW hx2)
  have HS := hid_mk (HS0.out.ext HX.out)
  obtain ⟨xb, hxb⟩ : ∃ xb, w.heap.size = xb := ⟨_, rfl⟩
  have HXB := hid_mk hxb
  rw [hxb] at HB HV
  simp only [hxb]
  clear hb hv hxW hx2 h1 h2 hxb
  cases hr : roomE k s.l with
  | false =>
    have HE := hid_mk (show wrE s k v = 80 by unfold wrE; rw [if_neg (by have := HN.out.1; omega), if_neg (by have := HN.out.2; omega), if_pos hr])
    have u0 := HV.out.c0
    have u1 := HV.out.c1
    have g0 := HV.out.f 0
    have g1 := HV.out.f 1
    have ul := HV.out.lt
    go_wp2
    refine bodyPost_ret (v := .tuple #[.agg #[.int .i64 0, .int .i64 0], .int .i64 80]) (by unfold results; rw [Tryd.results68]; go_simp; first | done | rfl) rfl ⟨by rw [wrV, if_neg (by rw [HE.out]; decide), HE.out], ?_⟩
    rw [wrS, if_neg (by rw [HE.out]; decide)]
    exact StPost.still HS0.out (Xl.ext HX.out (L := [xb + 1]) (by (repeat (first | with_reducible exact Xl.refl _ | with_reducible apply Xl.alloc | with_reducible apply Xl.drew | with_reducible apply Xl.set | (focus (simp; done))))) (by rw [← HXB.out]; simp))
  | true =>
    have HR := hid_mk hr
    clear hr
    obtain ⟨c, hc⟩ : ∃ c, (if s.time = 1099511627776 then (0 : Int) else s.time + 1) = c := ⟨_, rfl⟩
    obtain ⟨m, hm⟩ : ∃ m, (if s.time = 1099511627776 then (0 : Int) else s.id) = m := ⟨_, rfl⟩
    obtain ⟨f, hf⟩ : ∃ f, (if s.time = 1099511627776 then (33 : Int) else 0) = f := ⟨_, rfl⟩
    have HF := hid_mk (And.intro hc (And.intro hm hf))
    have HG := hid_mk (fun (V : World) => (show Calls Tryd.prog 108 #[.int .i64 s.time, .int .i64 s.id] V (fun r w' => r = .returned (.tuple #[.agg #[.int .i64 c, .int .i64 m], .int .i64 f]) ∧ Ext V w') by rw [← hc, ← hm, ← hf]; exact iNext_any s.time s.id HOK.out.time HOK.out.id V))
    clear hc hm hf
    have c0 := HS.out.c0
    have c1 := HS.out.c1
    have hsl := HS.out.lt
    go_wp2_with fail
    have hx9 := Ext.refl W2
    have hc9 := hx9.hc; have hl9 := hx9.hl; have he9 := hx9.hle; have hn9 := hx9.hne; replace hx9 := hid_mk hx9
    refine wp_region_held_planC Ext (fun i => i != 13) (fun i => [0, 1, 2, 4, 5, 6, 9, 10, 11, 14].contains i) (.quiet 0 (.quiet 1 (.quiet 2 (.quiet 3 (.quiet 4 (.quiet 5 (.quiet 6 (.quiet 7 (.alt 8 (.quiet 9 (.quiet 10 (.quiet 11 (.alt 12 (.alt 13 (.quiet 14 .done) .stop) .stop)))) (.alt 12 (.alt 8 (.quiet 9 (.quiet 10 (.quiet 11 (.alt 13 (.quiet 14 .done) .stop)))) .stop) .stop)))))))))) (by kernel_rfl) (by kernel_rfl) Ext.refl Ext.trans (by intro c a w d v h; cases d <;> exact h) (fun ops HO => ?_)
    refine planC_calm _ (hi_of HO rfl) rfl (fun w' => by go_simp; rfl) ?_
    simp only [Act.put, List.setIfInBounds_toArray, List.set_cons_succ, List.set_cons_zero]
    refine planC_calm _ (hi_of HO rfl) rfl (fun w' => by go_simp; rfl) ?_
    simp only [Act.put, List.setIfInBounds_toArray, List.set_cons_succ, List.set_cons_zero]
    refine planC_calm _ (hi_of HO rfl) rfl (fun w' => by go_simp; rfl) ?_
    simp only [Act.put, List.setIfInBounds_toArray, List.set_cons_succ, List.set_cons_zero]
    refine planC_read _ (hi_of HO rfl) rfl rfl (fun w' hE => by have hcE := (Ext.trans _ _ _ (by (repeat (first | exact hx9.out | apply Ext.drew | apply Ext.alloc))) hE).hc; (repeat (with_reducible replace hE := Ext.unD hE)); have hcF := hE.hc; clear hE; go_simp; rfl) ?_
    simp only [Act.put, List.setIfInBounds_toArray, List.set_cons_succ, List.set_cons_zero]
    refine planC_calm _ (hi_of HO rfl) rfl (fun w' => by go_simp; rfl) ?_
    simp only [Act.put, List.setIfInBounds_toArray, List.set_cons_succ, List.set_cons_zero]
    refine planC_calm _ (hi_of HO rfl) rfl (fun w' => by go_simp; rfl) ?_
    simp only [Act.put, List.setIfInBounds_toArray, List.set_cons_succ, List.set_cons_zero]
    refine planC_calm _ (hi_of HO rfl) rfl (fun w' => by go_simp; rfl) ?_
    simp only [Act.put, List.setIfInBounds_toArray, List.set_cons_succ, List.set_cons_zero]
    refine planC_read _ (hi_of HO rfl) rfl rfl (fun w' hE => by have hcE := (Ext.trans _ _ _ (by (repeat (first | exact hx9.out | apply Ext.drew | apply Ext.alloc))) hE).hc; (repeat (with_reducible replace hE := Ext.unD hE)); have hcF := hE.hc; clear hE; go_simp; rfl) ?_
    simp only [Act.put, List.setIfInBounds_toArray, List.set_cons_succ, List.set_cons_zero]
    refine planC_fork ?lA101 ?lB101
    case' lA101 =>
      refine planC_call1 en_iNext (hi_of HO rfl) rfl rfl (by go_simp; rfl) (by exact (HG.out _)) ?_
      rintro e v102 ⟨rfl, hx102⟩
      refine ⟨_, rfl, fun _ => hx102, ?_⟩
      have hy102 := hid_mk (by first | (with_reducible exact Ext.unD hx102) | exact hx102 : Ext _ v102)
      replace hx102 := Ext.trans _ _ _ (by (repeat (first | exact hx9.out | apply Ext.drew | apply Ext.alloc))) hx102
      clear hc9 hl9 he9 hn9
      have hc102 := hx102.hc; have hl102 := hx102.hl; have he102 := hx102.hle; have hn102 := hx102.hne; replace hx102 := hid_mk hx102
      simp only [Act.put, List.setIfInBounds_toArray, List.set_cons_succ, List.set_cons_zero]
      have HVV := hid_mk hx102.out
      try have HZV := hid_mk (VrB.ext (VrB.new W2 0 0) hy102.out)
      refine planC_calm _ (hi_of HO rfl) rfl (fun w' => by go_simp; rfl) ?_
      simp only [Act.put, List.setIfInBounds_toArray, List.set_cons_succ, List.set_cons_zero]
      refine planC_calm _ (hi_of HO rfl) rfl (fun w' => by go_simp; rfl) ?_
      simp only [Act.put, List.setIfInBounds_toArray, List.set_cons_succ, List.set_cons_zero]
      refine planC_calm _ (hi_of HO rfl) rfl (fun w' => by go_simp; rfl) ?_
      simp only [Act.put, List.setIfInBounds_toArray, List.set_cons_succ, List.set_cons_zero]
      refine planC_loud1 (hi_of HO rfl) rfl ?_
      go_simp
      refine ⟨by (repeat (first | exact Ext.refl _ | apply Ext.drew_left | apply Ext.drew | apply Ext.alloc)), ?_⟩
      try (have z0 := HZV.out.c0; have z1 := HZV.out.c1; have y0 := HZV.out.f 0; have y1 := HZV.out.f 1; have zl := HZV.out.lt)
      refine planC_loud1 (hi_of HO rfl) rfl ?_
      go_simp
      refine planC_calm _ (hi_of HO rfl) rfl (fun w' => by go_simp; rfl) ?_
      simp only [Act.put, List.setIfInBounds_toArray, List.set_cons_succ, List.set_cons_zero]
      refine planC_done ?fin103
    case' lB101 =>
      refine planC_loud1 (hi_of HO rfl) rfl ?_
      go_simp
      refine ⟨by (repeat (first | exact Ext.refl _ | apply Ext.drew_left | apply Ext.drew | apply Ext.alloc)), ?_⟩
      refine planC_call1 en_iNext (hi_of HO rfl) rfl rfl (by go_simp; rfl) (by exact (HG.out _)) ?_
      rintro e v104 ⟨rfl, hx104⟩
      refine ⟨_, rfl, fun _ => hx104, ?_⟩
      have hy104 := hid_mk (by first | (with_reducible exact Ext.unD hx104) | exact hx104 : Ext _ v104)
      replace hx104 := Ext.trans _ _ _ (by (repeat (first | exact hx9.out | apply Ext.drew | apply Ext.alloc))) hx104
      clear hc9 hl9 he9 hn9
      have hc104 := hx104.hc; have hl104 := hx104.hl; have he104 := hx104.hle; have hn104 := hx104.hne; replace hx104 := hid_mk hx104
      simp only [Act.put, List.setIfInBounds_toArray, List.set_cons_succ, List.set_cons_zero]
      have HVV := hid_mk hx104.out
      try have HZV := hid_mk (VrB.ext (VrB.new W2 0 0) hy104.out)
      refine planC_calm _ (hi_of HO rfl) rfl (fun w' => by go_simp; rfl) ?_
      simp only [Act.put, List.setIfInBounds_toArray, List.set_cons_succ, List.set_cons_zero]
      refine planC_calm _ (hi_of HO rfl) rfl (fun w' => by go_simp; rfl) ?_
      simp only [Act.put, List.setIfInBounds_toArray, List.set_cons_succ, List.set_cons_zero]
      refine planC_calm _ (hi_of HO rfl) rfl (fun w' => by go_simp; rfl) ?_
      simp only [Act.put, List.setIfInBounds_toArray, List.set_cons_succ, List.set_cons_zero]
      try (have z0 := HZV.out.c0; have z1 := HZV.out.c1; have y0 := HZV.out.f 0; have y1 := HZV.out.f 1; have zl := HZV.out.lt)
      refine planC_loud1 (hi_of HO rfl) rfl ?_
      go_simp
      refine planC_calm _ (hi_of HO rfl) rfl (fun w' => by go_simp; rfl) ?_
      simp only [Act.put, List.setIfInBounds_toArray, List.set_cons_succ, List.set_cons_zero]
      refine planC_done ?fin105
    case lA101 =>
      refine gen_world (P := Tryd.prog) (fun V => VrB V v102.heap.size c m ∧ EnB4 V xb ⟨k, 0, 0, v, d⟩ ∧ VrB V (xb + 1) 0 0 ∧ Ext w V ∧ w.heap.size ≤ v102.heap.size) ⟨VrB.new v102 c m, (HB.out.ext HVV.out).ext (by (repeat (first | exact Ext.refl _ | apply Ext.drew_left | apply Ext.drew | apply Ext.alloc))), (HV.out.ext HVV.out).ext (by (repeat (first | exact Ext.refl _ | apply Ext.drew_left | apply Ext.drew | apply Ext.alloc))), Ext.trans _ _ _ HX.out (Ext.trans _ _ _ HVV.out (by (repeat (first | exact Ext.refl _ | apply Ext.drew_left | apply Ext.drew | apply Ext.alloc)))), Nat.le_trans HX.out.below.size HVV.out.below.size⟩ ?_
      rintro V ⟨h6, h3, h4, hxV, hqw⟩
      have HQW := hid_mk hqw
      obtain ⟨q, hq⟩ : ∃ q, v102.heap.size = q := ⟨_, rfl⟩
      rw [hq] at h6 HQW
      simp only [hq]
      have H6 := hid_mk h6
      have H3 := hid_mk h3
      have H4 := hid_mk h4
      have HXV := hid_mk hxV
      have HSV := hid_mk (HS0.out.ext hxV)
      clear h6 h3 h4 hxV hq hqw
      have z0 := H6.out.c0
      have z1 := H6.out.c1
      have y0 := H6.out.f 0
      have y1 := H6.out.f 1
      have zl := H6.out.lt
      have a0 := H3.out.c0
      have a1 := H3.out.c1
      have a2 := H3.out.c2
      have a3 := H3.out.c3
      have a4 := H3.out.c4
      have f0 := H3.out.f 0
      have f1 := H3.out.f 1
      have f2 := H3.out.f 2
      have f3 := H3.out.f 3
      have f4 := H3.out.f 4
      have al := H3.out.lt
      have u0 := H4.out.c0
      have u1 := H4.out.c1
      have g0 := H4.out.f 0
      have g1 := H4.out.f 1
      have ul := H4.out.lt
      by_cases ht : s.time = 1099511627776
      · have hf : f = 33 := by rw [← HF.out.2.2, if_pos ht]
        subst hf
        have HE := hid_mk (show wrE s k v = 33 by unfold wrE; rw [if_neg (by have := HN.out.1; omega), if_neg (by have := HN.out.2; omega), if_neg (by rw [HR.out]; simp), if_pos ht])
        clear ht
        go_wp2
        refine bodyPost_ret (v := .tuple #[.agg #[.int .i64 0, .int .i64 0], .int .i64 33]) (by unfold results; rw [Tryd.results68]; go_simp; first | done | rfl) rfl ⟨by rw [wrV, if_neg (by rw [HE.out]; decide), HE.out], ?_⟩
        rw [wrS, if_neg (by rw [HE.out]; decide)]
        exact StPost.still HS0.out (Xl.ext HXV.out (L := [xb + 1]) (by (repeat (first | with_reducible exact Xl.refl _ | with_reducible apply Xl.alloc | with_reducible apply Xl.drew | with_reducible apply Xl.set | (focus (simp; done))))) (by rw [← HXB.out]; simp))
      · have hf : f = 0 := by rw [← HF.out.2.2, if_neg ht]
        have hc : c = s.time + 1 := by rw [← HF.out.1, if_neg ht]
        have hm : m = s.id := by rw [← HF.out.2.1, if_neg ht]
        have HE := hid_mk (show wrE s k v = 0 by unfold wrE; rw [if_neg (by have := HN.out.1; omega), if_neg (by have := HN.out.2; omega), if_neg (by rw [HR.out]; simp), if_neg ht])
        have HCM := hid_mk (And.intro hc hm)
        subst hf
        clear ht hc hm
        go_wp2_with fail
        have hqx : q ≠ xb := by
          intro hh
          have e1 := H6.out.b
          rw [hh, H3.out.b] at e1
          simp at e1
        have hxs : Xl [xb] V ((V.setCell ⟨xb, 1, none⟩ (.int .i64 c)).setCell ⟨xb, 2, none⟩ (.int .i64 m)) := by (repeat (first | with_reducible exact Xl.refl _ | with_reducible apply Xl.alloc | with_reducible apply Xl.drew | with_reducible apply Xl.set | (focus (simp; done))))
        refine gen_callsT (fun X => VrB X q c m ∧ VrB X (xb + 1) 0 0 ∧ Ext w X) ⟨H6.out.xl hxs (by simpa using hqx), H4.out.xl hxs (by simp), Xl.ext HXV.out hxs (by rw [← HXB.out]; simp)⟩ ?_
        rintro X ⟨h6, h4, hxX⟩
        refine (stLay_any ⟨k, c, m, v, d⟩ (HS0.out.ext hxX) HR.out (HL.out.ext hxX)).mono ?_
        rintro r w9 ⟨⟨v', rfl⟩, hp⟩
        have HP := hid_mk (StPost.from hxX (show StPost X sb mb tb n s (layS s ⟨k, c, m, v, d⟩) w9 from hp))
        have HO6 := hid_mk (h6.xl hp.1 (by have := HS0.out.lt; have := HS0.out.mlt; have := HS0.out.tlt; have := HQW.out; simp; omega))
        have HO4 := hid_mk (h4.xl hp.1 (by have := HS0.out.lt; have := HS0.out.mlt; have := HS0.out.tlt; have := HXB.out; simp; omega))
        clear z0 z1 y0 y1 zl a0 a1 a2 a3 a4 f0 f1 f2 f3 f4 al u0 u1 g0 g1 ul hqx hxs h6 h4 hxX hp
        have z0 := HO6.out.c0
        have z1 := HO6.out.c1
        have y0 := HO6.out.f 0
        have y1 := HO6.out.f 1
        have zl := HO6.out.lt
        have u0 := HO4.out.c0
        have u1 := HO4.out.c1
        have g0 := HO4.out.f 0
        have g1 := HO4.out.f 1
        have ul := HO4.out.lt
        go_wp2
        refine bodyPost_ret (v := .tuple #[.agg #[.int .i64 c, .int .i64 m], .int .i64 0]) (by unfold results; rw [Tryd.results68]; go_simp; first | done | rfl) rfl ⟨by rw [wrV, if_pos HE.out, HE.out, HCM.out.1, HCM.out.2], ?_⟩
        rw [wrS, if_pos HE.out, show wrEnt s k v d = ⟨k, c, m, v, d⟩ by rw [HCM.out.1, HCM.out.2]; rfl]
        exact HP.out.off HS0.out (show Xl [xb + 1] w9 _ by (repeat (first | with_reducible exact Xl.refl _ | with_reducible apply Xl.alloc | with_reducible apply Xl.drew | with_reducible apply Xl.set | (focus (simp; done))))) (by have := HXB.out; omega) (noVr HO4.out)
    case lB101 =>
      have hxz : Xl [W2.heap.size] v104 ((v104.setCell ⟨W2.heap.size, 0, none⟩ (.int .i64 c)).setCell ⟨W2.heap.size, 1, none⟩ (.int .i64 m)) := by (repeat (first | with_reducible exact Xl.refl _ | with_reducible apply Xl.alloc | with_reducible apply Xl.drew | with_reducible apply Xl.set | (focus (simp; done))))
      have HXZ := hid_mk hxz
      have hxl : xb ∉ [W2.heap.size] := by have := HB.out.lt; simp; omega
      have hxl2 : xb + 1 ∉ [W2.heap.size] := by have := HV.out.lt; simp; omega
      clear hxz
      refine gen_world (P := Tryd.prog) (fun V => VrB V W2.heap.size c m ∧ EnB4 V xb ⟨k, 0, 0, v, d⟩ ∧ VrB V (xb + 1) 0 0 ∧ Ext w V ∧ w.heap.size ≤ W2.heap.size) ⟨HZV.out.setAll, (HB.out.ext HVV.out).xl HXZ.out hxl, (HV.out.ext HVV.out).xl HXZ.out hxl2, Xl.ext (Ext.trans _ _ _ HX.out HVV.out) HXZ.out (by intro k hk; rw [List.mem_singleton.1 hk]; exact HX.out.below.size), HX.out.below.size⟩ ?_
      rintro V ⟨h6, h3, h4, hxV, hqw⟩
      have HQW := hid_mk hqw
      obtain ⟨q, hq⟩ : ∃ q, W2.heap.size = q := ⟨_, rfl⟩
      rw [hq] at h6 HQW
      simp only [hq]
      have H6 := hid_mk h6
      have H3 := hid_mk h3
      have H4 := hid_mk h4
      have HXV := hid_mk hxV
      have HSV := hid_mk (HS0.out.ext hxV)
      clear h6 h3 h4 hxV hq hqw
      have z0 := H6.out.c0
      have z1 := H6.out.c1
      have y0 := H6.out.f 0
      have y1 := H6.out.f 1
      have zl := H6.out.lt
      have a0 := H3.out.c0
      have a1 := H3.out.c1
      have a2 := H3.out.c2
      have a3 := H3.out.c3
      have a4 := H3.out.c4
      have f0 := H3.out.f 0
      have f1 := H3.out.f 1
      have f2 := H3.out.f 2
      have f3 := H3.out.f 3
      have f4 := H3.out.f 4
      have al := H3.out.lt
      have u0 := H4.out.c0
      have u1 := H4.out.c1
      have g0 := H4.out.f 0
      have g1 := H4.out.f 1
      have ul := H4.out.lt
      by_cases ht : s.time = 1099511627776
      · have hf : f = 33 := by rw [← HF.out.2.2, if_pos ht]
        subst hf
        have HE := hid_mk (show wrE s k v = 33 by unfold wrE; rw [if_neg (by have := HN.out.1; omega), if_neg (by have := HN.out.2; omega), if_neg (by rw [HR.out]; simp), if_pos ht])
        clear ht
        go_wp2
        refine bodyPost_ret (v := .tuple #[.agg #[.int .i64 0, .int .i64 0], .int .i64 33]) (by unfold results; rw [Tryd.results68]; go_simp; first | done | rfl) rfl ⟨by rw [wrV, if_neg (by rw [HE.out]; decide), HE.out], ?_⟩
        rw [wrS, if_neg (by rw [HE.out]; decide)]
        exact StPost.still HS0.out (Xl.ext HXV.out (L := [xb + 1]) (by (repeat (first | with_reducible exact Xl.refl _ | with_reducible apply Xl.alloc | with_reducible apply Xl.drew | with_reducible apply Xl.set | (focus (simp; done))))) (by rw [← HXB.out]; simp))
      · have hf : f = 0 := by rw [← HF.out.2.2, if_neg ht]
        have hc : c = s.time + 1 := by rw [← HF.out.1, if_neg ht]
        have hm : m = s.id := by rw [← HF.out.2.1, if_neg ht]
        have HE := hid_mk (show wrE s k v = 0 by unfold wrE; rw [if_neg (by have := HN.out.1; omega), if_neg (by have := HN.out.2; omega), if_neg (by rw [HR.out]; simp), if_neg ht])
        have HCM := hid_mk (And.intro hc hm)
        subst hf
        clear ht hc hm
        go_wp2_with fail
        have hqx : q ≠ xb := by
          intro hh
          have e1 := H6.out.b
          rw [hh, H3.out.b] at e1
          simp at e1
        have hxs : Xl [xb] V ((V.setCell ⟨xb, 1, none⟩ (.int .i64 c)).setCell ⟨xb, 2, none⟩ (.int .i64 m)) := by (repeat (first | with_reducible exact Xl.refl _ | with_reducible apply Xl.alloc | with_reducible apply Xl.drew | with_reducible apply Xl.set | (focus (simp; done))))
        refine gen_callsT (fun X => VrB X q c m ∧ VrB X (xb + 1) 0 0 ∧ Ext w X) ⟨H6.out.xl hxs (by simpa using hqx), H4.out.xl hxs (by simp), Xl.ext HXV.out hxs (by rw [← HXB.out]; simp)⟩ ?_
        rintro X ⟨h6, h4, hxX⟩
        refine (stLay_any ⟨k, c, m, v, d⟩ (HS0.out.ext hxX) HR.out (HL.out.ext hxX)).mono ?_
        rintro r w9 ⟨⟨v', rfl⟩, hp⟩
        have HP := hid_mk (StPost.from hxX (show StPost X sb mb tb n s (layS s ⟨k, c, m, v, d⟩) w9 from hp))
        have HO6 := hid_mk (h6.xl hp.1 (by have := HS0.out.lt; have := HS0.out.mlt; have := HS0.out.tlt; have := HQW.out; simp; omega))
        have HO4 := hid_mk (h4.xl hp.1 (by have := HS0.out.lt; have := HS0.out.mlt; have := HS0.out.tlt; have := HXB.out; simp; omega))
        clear z0 z1 y0 y1 zl a0 a1 a2 a3 a4 f0 f1 f2 f3 f4 al u0 u1 g0 g1 ul hqx hxs h6 h4 hxX hp
        have z0 := HO6.out.c0
        have z1 := HO6.out.c1
        have y0 := HO6.out.f 0
        have y1 := HO6.out.f 1
        have zl := HO6.out.lt
        have u0 := HO4.out.c0
        have u1 := HO4.out.c1
        have g0 := HO4.out.f 0
        have g1 := HO4.out.f 1
        have ul := HO4.out.lt
        go_wp2
        refine bodyPost_ret (v := .tuple #[.agg #[.int .i64 c, .int .i64 m], .int .i64 0]) (by unfold results; rw [Tryd.results68]; go_simp; first | done | rfl) rfl ⟨by rw [wrV, if_pos HE.out, HE.out, HCM.out.1, HCM.out.2], ?_⟩
        rw [wrS, if_pos HE.out, show wrEnt s k v d = ⟨k, c, m, v, d⟩ by rw [HCM.out.1, HCM.out.2]; rfl]
        exact HP.out.off HS0.out (show Xl [xb + 1] w9 _ by (repeat (first | with_reducible exact Xl.refl _ | with_reducible apply Xl.alloc | with_reducible apply Xl.drew | with_reducible apply Xl.set | (focus (simp; done))))) (by have := HXB.out; omega) (noVr HO4.out)
theorem stPut_any (k v : ByteArray) (h : StW w sb mb tb n s) (hok : StOk s) (hl : LanesAt w) : Calls Tryd.prog 33 #[.pointer (some ⟨sb, 0, none⟩), .string k, .string v] w fun r w' =>
    r = .returned (.tuple #[.agg #[.int .i64 (wrV s k v).1, .int .i64 (wrV s k v).2], .int .i64 (wrE s k v)]) ∧ StPost w sb mb tb n s (wrS s k v false) w' := by
  have HS0 := hid_mk h
  have HL := hid_mk hl
  have HOK := hid_mk hok
  clear h hl hok
  go_enter Tryd.func33, Tryd.ntmps33
  go_wp2_with fail
  refine gen_callsT (fun W => VrB W w.heap.size 0 0 ∧ Ext w W) ⟨VrB.new w 0 0, by (repeat (first | exact Ext.refl _ | apply Ext.drew_left | apply Ext.drew | apply Ext.alloc))⟩ ?_
  rintro W ⟨hv, hxW⟩
  refine (stWrite_any k v false (HS0.out.ext hxW) HOK.out (HL.out.ext hxW)).mono ?_
  rintro r w9 ⟨rfl, hp⟩
  have HP := hid_mk (StPost.from hxW hp)
  have HV := hid_mk (hv.xl hp.1 (by have := HS0.out.lt; have := HS0.out.mlt; have := HS0.out.tlt; simp; omega))
  clear hv hxW hp
  generalize hc : (wrV s k v).1 = c
  generalize hm : (wrV s k v).2 = m
  generalize hf : wrE s k v = f
  have HF := hid_mk (And.intro hc (And.intro hm hf))
  clear hc hm hf
  have u0 := HV.out.c0
  have u1 := HV.out.c1
  have g0 := HV.out.f 0
  have g1 := HV.out.f 1
  have ul := HV.out.lt
  go_wp2
  refine bodyPost_ret (v := .tuple #[.agg #[.int .i64 c, .int .i64 m], .int .i64 f]) (by unfold results; rw [Tryd.results33]; go_simp; first | done | rfl) rfl ⟨by rw [HF.out.1, HF.out.2.1, HF.out.2.2], ?_⟩
  exact HP.out.off HS0.out (show Xl [w.heap.size] w9 _ by (repeat (first | with_reducible exact Xl.refl _ | with_reducible apply Xl.alloc | with_reducible apply Xl.drew | with_reducible apply Xl.set | (focus (simp; done))))) (Nat.le_refl _) (noVr HV.out)
theorem stDelete_any (k : ByteArray) (h : StW w sb mb tb n s) (hok : StOk s) (hl : LanesAt w) : Calls Tryd.prog 31 #[.pointer (some ⟨sb, 0, none⟩), .string k] w fun r w' =>
    r = .returned (.tuple #[.agg #[.int .i64 (wrV s k ⟨#[]⟩).1, .int .i64 (wrV s k ⟨#[]⟩).2], .int .i64 (wrE s k ⟨#[]⟩)]) ∧ StPost w sb mb tb n s (wrS s k ⟨#[]⟩ true) w' := by
  have HS0 := hid_mk h
  have HL := hid_mk hl
  have HOK := hid_mk hok
  clear h hl hok
  go_enter Tryd.func31, Tryd.ntmps31
  go_wp2_with fail
  refine gen_callsT (fun W => VrB W w.heap.size 0 0 ∧ Ext w W) ⟨VrB.new w 0 0, by (repeat (first | exact Ext.refl _ | apply Ext.drew_left | apply Ext.drew | apply Ext.alloc))⟩ ?_
  rintro W ⟨hv, hxW⟩
  refine (stWrite_any k ⟨#[]⟩ true (HS0.out.ext hxW) HOK.out (HL.out.ext hxW)).mono ?_
  rintro r w9 ⟨rfl, hp⟩
  have HP := hid_mk (StPost.from hxW hp)
  have HV := hid_mk (hv.xl hp.1 (by have := HS0.out.lt; have := HS0.out.mlt; have := HS0.out.tlt; simp; omega))
  clear hv hxW hp
  generalize hc : (wrV s k ⟨#[]⟩).1 = c
  generalize hm : (wrV s k ⟨#[]⟩).2 = m
  generalize hf : wrE s k ⟨#[]⟩ = f
  have HF := hid_mk (And.intro hc (And.intro hm hf))
  clear hc hm hf
  have u0 := HV.out.c0
  have u1 := HV.out.c1
  have g0 := HV.out.f 0
  have g1 := HV.out.f 1
  have ul := HV.out.lt
  go_wp2
  refine bodyPost_ret (v := .tuple #[.agg #[.int .i64 c, .int .i64 m], .int .i64 f]) (by unfold results; rw [Tryd.results31]; go_simp; first | done | rfl) rfl ⟨by rw [HF.out.1, HF.out.2.1, HF.out.2.2], ?_⟩
  exact HP.out.off HS0.out (show Xl [w.heap.size] w9 _ by (repeat (first | with_reducible exact Xl.refl _ | with_reducible apply Xl.alloc | with_reducible apply Xl.drew | with_reducible apply Xl.set | (focus (simp; done))))) (Nat.le_refl _) (noVr HV.out)
end
end Go.Proofs.YtokcgnbjkbhmiaaDoor
namespace Go.Proofs.YtokcgnbjkbhmiaaDoor
open Go.RowKit Go.Lib
set_option maxHeartbeats 4000000
set_option maxRecDepth 100000
set_option linter.unusedSimpArgs false
set_option linter.unusedVariables false
theorem en_stLoad : Enters Tryd.prog 56 := ⟨_, Tryd.func56, by kernel_rfl, rfl⟩
theorem en_stNew : Enters Tryd.prog 22 := ⟨_, Tryd.func22, by kernel_rfl, rfl⟩
/-- What Load hands back. -/
def LoadPost (w : World) (node clock : Int) (l : List Ent) (r : Ending) (w' : World) : Prop :=
  (ldE node clock l = 0 ∧ ∃ sb mb tb n, r = .returned (.tuple #[.pointer (some ⟨sb, 0, none⟩), .int .i64 0]) ∧ (w.heap.size ≤ sb ∧ w.heap.size ≤ mb ∧ w.heap.size ≤ tb) ∧ StW w' sb mb tb n ⟨node, clock, l⟩ ∧ Ext w w') ∨
  (ldE node clock l ≠ 0 ∧ r = .returned (.tuple #[.pointer none, .int .i64 (ldE node clock l)]) ∧ Ext w w')
theorem LoadPost.bad {w w' : World} {node clock c : Int} {l : List Ent} (h : ldE node clock l = c) (hc : c ≠ 0) (hx : Ext w w') : LoadPost w node clock l (.returned (.tuple #[.pointer none, .int .i64 c])) w' := .inr ⟨by rw [h]; exact hc, by rw [h], hx⟩
theorem blt_le {a b c : ByteArray} (h : ¬ blt b a) (k : blt b c) : blt a c := by
  rcases hb : Op.bytesLess a.toList c.toList with _ | _
  · by_cases h2 : blt c a
    · exact absurd (blt_trans k h2) h
    · have := blt_eq (a := a) (b := c) (by simp [blt, hb]) h2
      rw [← this] at k
      exact absurd k h
  · exact hb
theorem take_snoc' {l : List Ent} {k : Nat} (h : k < l.length) : l.take (k + 1) = l.take k ++ [l[k]] := by rw [List.take_succ_eq_append_getElem h]
theorem stLoad_any {w : World} (node clock : Int) (v : Value) (l : List Ent) (hs : EntSl w v l) (hl : LanesAt w) :
    Calls Tryd.prog 56 #[.int .i64 node, .int .i64 clock, v] w (LoadPost w node clock l) := by
  obtain ⟨a, cp, rfl, hlc, hc63, hcells⟩ := hs
  have HCC := hid_mk hcells
  have HL := hid_mk hl
  clear hcells hl
  by_cases g1 : node < 0
  · have HE := hid_mk (show ldE node clock l = 1 by unfold ldE; rw [if_pos (by omega)])
    go_enter Tryd.func56, Tryd.ntmps56
    go_wp2
    refine bodyPost_ret (v := .tuple #[.pointer none, .int .i64 1]) (by unfold results; rw [Tryd.results56]; go_simp; first | done | rfl) rfl ?_
    exact LoadPost.bad HE.out (by decide) (Ext.refl _)
  by_cases g2 : 8 ≤ node
  · have HE := hid_mk (show ldE node clock l = 1 by unfold ldE; rw [if_pos (by omega)])
    go_enter Tryd.func56, Tryd.ntmps56
    go_wp2
    refine bodyPost_ret (v := .tuple #[.pointer none, .int .i64 1]) (by unfold results; rw [Tryd.results56]; go_simp; first | done | rfl) rfl ?_
    exact LoadPost.bad HE.out (by decide) (Ext.refl _)
  by_cases g3 : clock < 0
  · have HE := hid_mk (show ldE node clock l = 1 by unfold ldE; rw [if_pos (by omega)])
    go_enter Tryd.func56, Tryd.ntmps56
    go_wp2
    refine bodyPost_ret (v := .tuple #[.pointer none, .int .i64 1]) (by unfold results; rw [Tryd.results56]; go_simp; first | done | rfl) rfl ?_
    exact LoadPost.bad HE.out (by decide) (Ext.refl _)
  by_cases g4 : 1099511627776 < clock
  · have HE := hid_mk (show ldE node clock l = 1 by unfold ldE; rw [if_pos (by omega)])
    go_enter Tryd.func56, Tryd.ntmps56
    go_wp2
    refine bodyPost_ret (v := .tuple #[.pointer none, .int .i64 1]) (by unfold results; rw [Tryd.results56]; go_simp; first | done | rfl) rfl ?_
    exact LoadPost.bad HE.out (by decide) (Ext.refl _)
  by_cases g5 : 256 < (l.length : Int)
  · have HE := hid_mk (show ldE node clock l = 80 by unfold ldE; rw [if_neg (by omega), if_pos (by omega)])
    go_enter Tryd.func56, Tryd.ntmps56
    go_wp2
    refine bodyPost_ret (v := .tuple #[.pointer none, .int .i64 80]) (by unfold results; rw [Tryd.results56]; go_simp; first | done | rfl) rfl ?_
    exact LoadPost.bad HE.out (by decide) (Ext.refl _)
  have HP := hid_mk (show ldE node clock l = ldP clock none l by unfold ldE; rw [if_neg (by omega), if_neg (by omega)])
  have HN := hid_mk (show l.length ≤ 256 by omega)
  go_enter Tryd.func56, Tryd.ntmps56
  go_wp2_with fail
  refine (newMeter_any w).mono ?_
  rintro r W1 ⟨rfl, hm, hz1, hx1⟩
  obtain ⟨mb, hmb⟩ : ∃ mb, w.heap.size = mb := ⟨_, rfl⟩
  have HMB := hid_mk hmb
  rw [hmb] at hm
  simp only [hmb]
  clear g1 g2 g3 g4 g5
  obtain ⟨sb, hsb⟩ : ∃ sb, W1.heap.size = sb := ⟨_, rfl⟩
  have HSB := hid_mk (And.intro hsb (show sb = mb + 1 by omega))
  have HM1 := hid_mk hm
  have HX1 := hid_mk hx1
  clear hm hx1 hz1 hmb
  go_wp2_with fail
  refine (new4_any (0, 0, 0) 71 #[.pointer (some ⟨mb, 0, none⟩)] _).mono ?_
  rintro r W2 ⟨tb, rfl, htb, hT, hx2⟩
  simp only [hsb]
  rw [World.size_alloc, hsb] at htb
  have hb1 := heap_alloc_new W1 (.cells #[.int .i64 node, .int .i64 clock, .pointer (some ⟨mb, 0, none⟩), .pointer none] 121)
  rw [hsb] at hb1
  have hb2 : W2.heap[sb]? = some (.cells #[.int .i64 node, .int .i64 clock, .pointer (some ⟨mb, 0, none⟩), .pointer none] 121 (0, 0)) := (hx2.below.block sb (by simp; omega)).trans hb1
  have HB2 := hid_mk hb2
  have c3 : W2.cell? ⟨sb, 3, none⟩ = some (.pointer none) := by simp [World.cell?, hb2]
  have f3 : W2.frozen? ⟨sb, 3, none⟩ = false := by simp [World.frozen?, hb2]
  have hsl := cell_lt c3
  have HTB := hid_mk htb
  have HT := hid_mk hT
  have HX12 := hid_mk (Ext.trans _ _ _ ((Ext.refl W1).alloc _) hx2)
  have HX2 := hid_mk (Ext.trans _ _ _ HX1.out HX12.out)
  clear hb1 hb2 htb hT hx2 hsb
  go_wp2_with fail
  have hxs : Xl [sb] W2 (W2.setCell ⟨sb, 3, none⟩ (.pointer (some ⟨tb, 0, none⟩))) := by (repeat (first | with_reducible exact Xl.refl _ | with_reducible apply Xl.alloc | with_reducible apply Xl.drew | with_reducible apply Xl.set | (focus (simp; done))))
  refine gen_code (fun W => StW W sb mb tb 0 ⟨node, clock, []⟩ ∧ Ext w W) ⟨⟨?_, ⟨?_⟩, ⟨.pointer none, .nil, HT.out.xl hxs (by have := HTB.out; simp; omega), rfl, rfl, trivial⟩, ?_, ?_, ?_, List.Pairwise.nil, by simp⟩, ?_⟩ ?_
  · rw [heap_setCell_same _ _ _ _ _ _ HB2.out]; rfl
  · exact (hxs.block mb (by have := HSB.out.2; omega) (by have := HSB.out.2; simp; omega)).trans ((HX12.out.below.block mb (Array.getElem?_eq_some_iff.1 HM1.out.b).1).trans HM1.out.b)
  · have := HSB.out.2; omega
  · have := HTB.out; omega
  · have := HTB.out; have := HSB.out.2; omega
  · exact Xl.ext HX2.out hxs (by have := HSB.out.2; have := HMB.out; simp; omega)
  rintro W ⟨hS, hX⟩
  have HSW := hid_mk hS
  have HX := hid_mk hX
  have HBB := hid_mk (show w.heap.size ≤ sb ∧ w.heap.size ≤ mb ∧ w.heap.size ≤ tb by have := HSB.out.2; have := HMB.out; have := HTB.out; omega)
  clear hS hX hxs c3 f3 hsl HT HX12 HX2 HM1 HX1 HB2
  go_loopw [42] (fun i wr => ∃ k n : Nat, k ≤ l.length ∧ i = .int .i64 (k : Int) ∧ ldP clock none l = ldP clock (prevKey l k) (l.drop k) ∧ (∀ x ∈ l.take k, ∀ q, prevKey l k = some q → ¬ blt q x.key) ∧ StW wr sb mb tb n ⟨node, clock, l.take k⟩ ∧ Ext w wr) (fun i _ => l.length - (intOf i).toNat)
  case atStart => exact ⟨0, 0, Nat.zero_le _, rfl, by simp [prevKey], by simp, HSW.out, HX.out⟩
  case round =>
    obtain ⟨k, n, hk, rfl, hf, hbl, hst, hx⟩ := hrel
    have HF := hid_mk hf
    have HBL := hid_mk hbl
    have HST := hid_mk hst
    replace HX := hid_mk hx
    clear hf hbl hst hx HSW
    by_cases hlt : k < l.length
    · obtain ⟨b, o, rfl, hcl⟩ := HCC.out (by omega)
      have HLC := hid_mk hcl
      obtain ⟨a0, a1, a2, a3, a4⟩ := (hcl k hlt).ext HX.out
      have hbl := cell_lt a0
      have HS := hid_mk (ldP_take (clock := clock) k hlt (prevKey l k))
      have HTK := hid_mk (take_snoc' hlt)
      obtain ⟨y, hy⟩ : ∃ y, l[k] = y := ⟨_, rfl⟩
      have HY := hid_mk hy
      rw [hy] at a0 a1 a2 a3 a4 HS HTK
      have hk1 : (k : Int) < (l.length : Int) := by omega
      have hk0 : (0 : Int) ≤ (k : Int) := by omega
      have HW := hid_mk (show wrap64 ((k : Int) + 1) = (k : Int) + 1 from w64in (by have := HN.out; omega))
      clear hcl hy
      go_wp2_with fail
      refine gen_callsT (fun V => EnB4 V wr.heap.size y ∧ Ext wr V) ⟨EnB4.new wr y, by (repeat (first | exact Ext.refl _ | apply Ext.drew_left | apply Ext.drew | apply Ext.alloc))⟩ ?_
      rintro V ⟨hb, hxV⟩
      refine (iCheck_any y.key y.ctr y.node y.val y.dead V).mono ?_
      rintro r V1 ⟨rfl, hx1⟩
      obtain ⟨xb, hxb⟩ : ∃ xb, wr.heap.size = xb := ⟨_, rfl⟩
      have HXB := hid_mk hxb
      rw [hxb] at hb
      simp only [hxb]
      have HB := hid_mk (hb.ext hx1)
      replace HX := hid_mk (Ext.trans _ _ _ HX.out (Ext.trans _ _ _ hxV hx1))
      replace HST := hid_mk (HST.out.ext (Ext.trans _ _ _ hxV hx1))
      clear a0 a1 a2 a3 a4 hbl hb hxV hx1 hxb
      obtain ⟨z, hz⟩ : ∃ z, entCheck y.key y.ctr y.node y.val y.dead = z := ⟨_, rfl⟩
      have HZ := hid_mk hz
      rw [hz]
      clear hz
      by_cases hz0 : z = 0
      · subst hz0
        rcases k with _ | m
        · have HY0 := hid_mk (show ∀ x ∈ l.take 0, blt x.key y.key by simp)
          have HSTEP := hid_mk (show ldP clock none l = if clock < y.ctr then 30 else ldP clock (some y.key) (l.drop (0 + 1)) by rw [HF.out, HS.out, if_neg (by simp [HZ.out]), if_neg (by rintro ⟨q, h1, -⟩; cases h1)])
          have a0 := HB.out.c0
          have a1 := HB.out.c1
          have a2 := HB.out.c2
          have a3 := HB.out.c3
          have a4 := HB.out.c4
          have f0 := HB.out.f 0
          have f1 := HB.out.f 1
          have f2 := HB.out.f 2
          have f3 := HB.out.f 3
          have f4 := HB.out.f 4
          have al := HB.out.lt
          go_wp2_with fail
          refine wp_region_held_below (fun _ => true) (.quiet 0 (.quiet 1 (.quiet 2 (.quiet 3 (.quiet 4 (.quiet 5 (.quiet 6 (.quiet 7 (.quiet 8 (.quiet 9 (.quiet 10 (.quiet 11 (.quiet 12 (.quiet 13 .done)))))))))))))) (by kernel_rfl) (by kernel_rfl) (by intro c a w d v h; cases d <;> exact h) (fun ops HO => ?_)
          refine plan_read _ (hi_of HO rfl) rfl (fun w' hE => by (repeat (with_reducible replace hE := Ext.unD hE)); have hcE := hE.hc; clear hE; go_simp; rfl) ?_
          simp only [Act.put, List.setIfInBounds_toArray, List.set_cons_succ, List.set_cons_zero]
          refine plan_read _ (hi_of HO rfl) rfl (fun w' hE => by (repeat (with_reducible replace hE := Ext.unD hE)); have hcE := hE.hc; clear hE; go_simp; rfl) ?_
          simp only [Act.put, List.setIfInBounds_toArray, List.set_cons_succ, List.set_cons_zero]
          refine plan_read _ (hi_of HO rfl) rfl (fun w' hE => by (repeat (with_reducible replace hE := Ext.unD hE)); have hcE := hE.hc; clear hE; go_simp; rfl) ?_
          simp only [Act.put, List.setIfInBounds_toArray, List.set_cons_succ, List.set_cons_zero]
          refine plan_skip (hi_of HO rfl) (by rw [HO.out]; rfl) ?_
          simp only [Act.put, List.setIfInBounds_toArray, List.set_cons_succ, List.set_cons_zero]
          refine plan_skip (hi_of HO rfl) (by rw [HO.out]; rfl) ?_
          simp only [Act.put, List.setIfInBounds_toArray, List.set_cons_succ, List.set_cons_zero]
          refine plan_skip (hi_of HO rfl) (by rw [HO.out]; rfl) ?_
          simp only [Act.put, List.setIfInBounds_toArray, List.set_cons_succ, List.set_cons_zero]
          refine plan_skip (hi_of HO rfl) (by rw [HO.out]; rfl) ?_
          simp only [Act.put, List.setIfInBounds_toArray, List.set_cons_succ, List.set_cons_zero]
          refine plan_skip (hi_of HO rfl) (by rw [HO.out]; rfl) ?_
          simp only [Act.put, List.setIfInBounds_toArray, List.set_cons_succ, List.set_cons_zero]
          refine plan_skip (hi_of HO rfl) (by rw [HO.out]; rfl) ?_
          simp only [Act.put, List.setIfInBounds_toArray, List.set_cons_succ, List.set_cons_zero]
          refine plan_skip (hi_of HO rfl) (by rw [HO.out]; rfl) ?_
          simp only [Act.put, List.setIfInBounds_toArray, List.set_cons_succ, List.set_cons_zero]
          refine plan_skip (hi_of HO rfl) (by rw [HO.out]; rfl) ?_
          simp only [Act.put, List.setIfInBounds_toArray, List.set_cons_succ, List.set_cons_zero]
          refine plan_skip (hi_of HO rfl) (by rw [HO.out]; rfl) ?_
          simp only [Act.put, List.setIfInBounds_toArray, List.set_cons_succ, List.set_cons_zero]
          refine plan_read _ (hi_of HO rfl) rfl (fun w' hE => by (repeat (with_reducible replace hE := Ext.unD hE)); have hcE := hE.hc; clear hE; go_simp; rfl) ?_
          simp only [Act.put, List.setIfInBounds_toArray, List.set_cons_succ, List.set_cons_zero]
          refine plan_read _ (hi_of HO rfl) rfl (fun w' hE => by (repeat (with_reducible replace hE := Ext.unD hE)); have hcE := hE.hc; clear hE; go_simp; rfl) ?_
          simp only [Act.put, List.setIfInBounds_toArray, List.set_cons_succ, List.set_cons_zero]
          refine plan_done ?fin101
          refine gen_world (P := Tryd.prog) (fun V => EnB4 V xb y ∧ StW V sb mb tb n ⟨node, clock, l.take 0⟩ ∧ Ext w V) ⟨HB.out.ext ((Ext.refl _).drew), HST.out.ext ((Ext.refl _).drew), HX.out.drew⟩ ?_
          rintro V ⟨hb, hs, hx⟩
          have HB' := hid_mk hb
          have HS' := hid_mk hs
          have HX' := hid_mk hx
          clear a0 a1 a2 a3 a4 f0 f1 f2 f3 f4 al hb hs hx
          have a0 := HB'.out.c0
          have a1 := HB'.out.c1
          have a2 := HB'.out.c2
          have a3 := HB'.out.c3
          have a4 := HB'.out.c4
          have f0 := HB'.out.f 0
          have f1 := HB'.out.f 1
          have f2 := HB'.out.f 2
          have f3 := HB'.out.f 3
          have f4 := HB'.out.f 4
          have al := HB'.out.lt
          by_cases hcl : clock < y.ctr
          · have HE := hid_mk (show ldE node clock l = 30 by rw [HP.out, HSTEP.out, if_pos hcl])
            go_wp2
            refine bodyPost_ret (v := .tuple #[.pointer none, .int .i64 30]) (by unfold results; rw [Tryd.results56]; go_simp; first | done | rfl) rfl ?_
            exact LoadPost.bad HE.out (by decide) HX'.out
          · replace HSTEP := hid_mk (show ldP clock none l = ldP clock (some y.key) (l.drop (0 + 1)) by rw [HSTEP.out, if_neg hcl])
            have HR := hid_mk (show roomE y.key (l.take 0) = true by unfold roomE; rw [decide_eq_true (by rw [List.length_take]; have := HN.out; omega), Bool.or_true])
            obtain ⟨L, hL⟩ : ∃ L, [tb, mb] = L := ⟨_, rfl⟩
            have HLE := hid_mk hL
            have c3 := HS'.out.c3
            have hsl := HS'.out.lt
            have hnS : sb ∉ L := by rw [← hL]; have := HS'.out.sm; have := HS'.out.st; simp; omega
            have hnE : xb ∉ L := by
              rw [← hL]
              have h1 := HS'.out.noM
              have h2 := HB'.out.b
              intro hh
              simp at hh
              rcases hh with rfl | rfl
              · obtain ⟨pv, T, t1, -⟩ := HS'.out.t
                have h3 := t1.at_.c0
                rw [HB'.out.c0] at h3
                simp at h3
              · rw [HS'.out.m.b] at h2
                simp at h2
            have HNS := hid_mk hnS
            have HNE := hid_mk hnE
            clear hL
            go_wp2_with fail
            refine wp_region_held_plan (Xl L) (fun _ => true) (.quiet 0 (.quiet 1 (.quiet 2 (.quiet 3 (.quiet 4 (.quiet 5 (.quiet 6 (.quiet 7 (.alt 8 (.alt 9 .done .stop) .stop))))))))) (by kernel_rfl) (by kernel_rfl) Xl.refl Xl.trans (by intro c a w d v h; cases d <;> exact h) (fun ops HO => ?_)
            refine plan_read _ (hi_of HO rfl) rfl (fun w' hE => by (repeat (with_reducible replace hE := Ext.unD hE)); have hcE := hE.hc; clear hE; go_simp; rfl) ?_
            simp only [Act.put, List.setIfInBounds_toArray, List.set_cons_succ, List.set_cons_zero]
            refine plan_read _ (hi_of HO rfl) rfl (fun w' hE => by (repeat (with_reducible replace hE := Ext.unD hE)); have hcE := hE.hc; clear hE; go_simp; rfl) ?_
            simp only [Act.put, List.setIfInBounds_toArray, List.set_cons_succ, List.set_cons_zero]
            refine plan_read _ (hi_of HO rfl) rfl (fun w' hE => by (repeat (with_reducible replace hE := Ext.unD hE)); have hcE := hE.hc; clear hE; go_simp; rfl) ?_
            simp only [Act.put, List.setIfInBounds_toArray, List.set_cons_succ, List.set_cons_zero]
            refine plan_read _ (hi_of HO rfl) rfl (fun w' hE => by have hcP := xl_hcL hE hsl hnS; clear hE; go_simp; rfl) ?_
            simp only [Act.put, List.setIfInBounds_toArray, List.set_cons_succ, List.set_cons_zero]
            refine plan_read _ (hi_of HO rfl) rfl (fun w' hE => by (repeat (with_reducible replace hE := Ext.unD hE)); have hcE := hE.hc; clear hE; go_simp; rfl) ?_
            simp only [Act.put, List.setIfInBounds_toArray, List.set_cons_succ, List.set_cons_zero]
            refine plan_read _ (hi_of HO rfl) rfl (fun w' hE => by have hcP := xl_hcL hE al hnE; clear hE; go_simp; rfl) ?_
            simp only [Act.put, List.setIfInBounds_toArray, List.set_cons_succ, List.set_cons_zero]
            refine plan_read _ (hi_of HO rfl) rfl (fun w' hE => by have hcP := xl_hcL hE al hnE; clear hE; go_simp; rfl) ?_
            simp only [Act.put, List.setIfInBounds_toArray, List.set_cons_succ, List.set_cons_zero]
            refine plan_read _ (hi_of HO rfl) rfl (fun w' hE => by have hcP := xl_hcL hE al hnE; clear hE; go_simp; rfl) ?_
            simp only [Act.put, List.setIfInBounds_toArray, List.set_cons_succ, List.set_cons_zero]
            refine plan_call1 en_tlOf (hi_of HO rfl) rfl rfl (by go_simp; rfl) (by exact tlOf_any y (HL.out.ext (Ext.trans _ _ _ HX'.out (by (repeat (first | exact Ext.refl _ | apply Ext.drew_left | apply Ext.drew | apply Ext.alloc)))))) ?_
            rintro r v8 ⟨rfl, hx⟩
            refine ⟨_, rfl, fun _ => Xl.of hx, ?_⟩
            have HV8 := hid_mk (Ext.unD hx)
            simp only [Act.put, List.setIfInBounds_toArray, List.set_cons_succ, List.set_cons_zero]
            clear hx
            refine plan_call1 en_TPut4 (hi_of HO rfl) rfl rfl (by go_simp; rfl) (by exact putS y (HS'.out.ext HV8.out) HR.out) ?_
            rintro r v9 ⟨rfl, hx, n9, hs, hc⟩
            rw [HLE.out] at hx
            refine ⟨_, rfl, fun _ => hx, ?_⟩
            have HX9 := hid_mk (Xl.ext (Ext.trans _ _ _ HX'.out HV8.out) hx (by rw [← HLE.out]; have := HBB.out; simp; omega))
            have HS9 := hid_mk (show StW v9 sb mb tb n9 ⟨node, clock, l.take (0 + 1)⟩ by
            have h := hs
            rw [HTK.out, ← insE_last HY0.out]
            exact h)
            simp only [Act.put, List.setIfInBounds_toArray, List.set_cons_succ, List.set_cons_zero]
            clear c3 hsl hx hs hc a0 a1 a2 a3 a4 f0 f1 f2 f3 f4 al hnS hnE
            refine plan_done ?fin102
            go_wp2
            go_roundw
            case rel => exact ⟨0 + 1, n9, by omega, (by first | exact congrArg (Value.int .i64) HW.out | rfl), by rw [HSTEP.out, show prevKey l (0 + 1) = some y.key by rw [← HY.out]; simp [prevKey, hlt]], by
              intro x hx q hq
              rw [show prevKey l (0 + 1) = some y.key by rw [← HY.out]; simp [prevKey, hlt]] at hq
              cases hq
              rw [HTK.out] at hx
              rcases List.mem_append.1 hx with hx | hx
              · exact blt_asymm (HY0.out x hx)
              · rw [List.mem_singleton.1 hx]; exact blt_irrefl _, HS9.out.ext (by (repeat (first | exact Ext.refl _ | apply Ext.drew_left | apply Ext.drew | apply Ext.alloc))), Ext.trans _ _ _ HX9.out (by (repeat (first | exact Ext.refl _ | apply Ext.drew_left | apply Ext.drew | apply Ext.alloc)))⟩
            case measure => (try simp only [HW.out]); simp [intOf]; omega
        · have hB := ((HLC.out m (by omega)).ext HX.out).c0
          have hbB := cell_lt hB
          have hlt2 : (0 : Int) < (m : Int) + 1 := by omega
          have hlt3 : (m : Int) < (l.length : Int) := by omega
          have hlt5 : (0 : Int) ≤ (m : Int) := by omega
          have hlt6 : (0 : Int) ≤ (m : Int) + 1 := by omega
          have hlt7 : (m : Int) + 1 < (l.length : Int) := by omega
          have hlt4 : wrap64 ((m : Int) + 1 - 1) = m := by rw [show (m : Int) + 1 - 1 = m by omega]; exact w64in (by have := HN.out; omega)
          have hlt4' : IntKind.i64.wrap (m : Int) = m := wrapN m (by have := HN.out; omega)
          have HI := hid_mk (show prevKey l (m + 1) = some l[m].key by simp [prevKey, show m < l.length by omega])
          obtain ⟨J, hJ⟩ : ∃ J, l[m].key = J := ⟨_, rfl⟩
          rw [hJ] at hB HI
          clear hJ
          have hcast : ((m + 1 : Nat) : Int) = (m : Int) + 1 := by omega
          have a0 := HB.out.c0
          have a1 := HB.out.c1
          have a2 := HB.out.c2
          have a3 := HB.out.c3
          have a4 := HB.out.c4
          have f0 := HB.out.f 0
          have f1 := HB.out.f 1
          have f2 := HB.out.f 2
          have f3 := HB.out.f 3
          have f4 := HB.out.f 4
          have al := HB.out.lt
          rcases hq : Op.bytesLess J.toList y.key.toList with _ | _
          · have HQ := hid_mk hq
            have HE := hid_mk (show ldE node clock l = 90 by rw [HP.out, HF.out, HS.out, if_neg (by simp [HZ.out]), if_pos ⟨_, HI.out, HQ.out⟩])
            go_wp2_with fail
            refine wp_region_held_below (fun _ => true) (.quiet 0 (.quiet 1 (.quiet 2 (.quiet 3 (.quiet 4 (.quiet 5 (.quiet 6 (.quiet 7 (.quiet 8 (.quiet 9 (.quiet 10 (.quiet 11 (.quiet 12 (.quiet 13 .done)))))))))))))) (by kernel_rfl) (by kernel_rfl) (by intro c a w d v h; cases d <;> exact h) (fun ops HO => ?_)
            refine plan_read _ (hi_of HO rfl) rfl (fun w' hE => by (repeat (with_reducible replace hE := Ext.unD hE)); have hcE := hE.hc; clear hE; go_simp; rfl) ?_
            simp only [Act.put, List.setIfInBounds_toArray, List.set_cons_succ, List.set_cons_zero]
            refine plan_read _ (hi_of HO rfl) rfl (fun w' hE => by (repeat (with_reducible replace hE := Ext.unD hE)); have hcE := hE.hc; clear hE; go_simp; rfl) ?_
            simp only [Act.put, List.setIfInBounds_toArray, List.set_cons_succ, List.set_cons_zero]
            refine plan_read _ (hi_of HO rfl) rfl (fun w' hE => by (repeat (with_reducible replace hE := Ext.unD hE)); have hcE := hE.hc; clear hE; go_simp; rfl) ?_
            simp only [Act.put, List.setIfInBounds_toArray, List.set_cons_succ, List.set_cons_zero]
            refine plan_read _ (hi_of HO rfl) (by rw [HO.out]; rfl) (fun w' hE => by (repeat (with_reducible replace hE := Ext.unD hE)); have hcE := hE.hc; clear hE; go_simp; rfl) ?_
            simp only [Act.put, List.setIfInBounds_toArray, List.set_cons_succ, List.set_cons_zero]
            refine plan_read _ (hi_of HO rfl) (by rw [HO.out]; rfl) (fun w' hE => by (repeat (with_reducible replace hE := Ext.unD hE)); have hcE := hE.hc; clear hE; go_simp; rfl) ?_
            simp only [Act.put, List.setIfInBounds_toArray, List.set_cons_succ, List.set_cons_zero]
            refine plan_read _ (hi_of HO rfl) (by rw [HO.out]; rfl) (fun w' hE => by (repeat (with_reducible replace hE := Ext.unD hE)); have hcE := hE.hc; clear hE; go_simp; rfl) ?_
            simp only [Act.put, List.setIfInBounds_toArray, List.set_cons_succ, List.set_cons_zero]
            refine plan_read _ (hi_of HO rfl) (by rw [HO.out]; rfl) (fun w' hE => by (repeat (with_reducible replace hE := Ext.unD hE)); have hcE := hE.hc; clear hE; go_simp; rfl) ?_
            simp only [Act.put, List.setIfInBounds_toArray, List.set_cons_succ, List.set_cons_zero]
            refine plan_read _ (hi_of HO rfl) (by rw [HO.out]; rfl) (fun w' hE => by (repeat (with_reducible replace hE := Ext.unD hE)); have hcE := hE.hc; clear hE; go_simp; rfl) ?_
            simp only [Act.put, List.setIfInBounds_toArray, List.set_cons_succ, List.set_cons_zero]
            refine plan_read _ (hi_of HO rfl) (by rw [HO.out]; rfl) (fun w' hE => by (repeat (with_reducible replace hE := Ext.unD hE)); have hcE := hE.hc; clear hE; go_simp; rfl) ?_
            simp only [Act.put, List.setIfInBounds_toArray, List.set_cons_succ, List.set_cons_zero]
            refine plan_read _ (hi_of HO rfl) (by rw [HO.out]; rfl) (fun w' hE => by (repeat (with_reducible replace hE := Ext.unD hE)); have hcE := hE.hc; clear hE; go_simp; rfl) ?_
            simp only [Act.put, List.setIfInBounds_toArray, List.set_cons_succ, List.set_cons_zero]
            refine plan_read _ (hi_of HO rfl) (by rw [HO.out]; rfl) (fun w' hE => by (repeat (with_reducible replace hE := Ext.unD hE)); have hcE := hE.hc; clear hE; go_simp; rfl) ?_
            simp only [Act.put, List.setIfInBounds_toArray, List.set_cons_succ, List.set_cons_zero]
            refine plan_read _ (hi_of HO rfl) (by rw [HO.out]; rfl) (fun w' hE => by (repeat (with_reducible replace hE := Ext.unD hE)); have hcE := hE.hc; clear hE; go_simp; rfl) ?_
            simp only [Act.put, List.setIfInBounds_toArray, List.set_cons_succ, List.set_cons_zero]
            refine plan_read _ (hi_of HO rfl) rfl (fun w' hE => by (repeat (with_reducible replace hE := Ext.unD hE)); have hcE := hE.hc; clear hE; go_simp; rfl) ?_
            simp only [Act.put, List.setIfInBounds_toArray, List.set_cons_succ, List.set_cons_zero]
            refine plan_read _ (hi_of HO rfl) rfl (fun w' hE => by (repeat (with_reducible replace hE := Ext.unD hE)); have hcE := hE.hc; clear hE; go_simp; rfl) ?_
            simp only [Act.put, List.setIfInBounds_toArray, List.set_cons_succ, List.set_cons_zero]
            refine plan_done ?fin103
            go_wp2
            refine bodyPost_ret (v := .tuple #[.pointer none, .int .i64 90]) (by unfold results; rw [Tryd.results56]; go_simp; first | done | rfl) rfl ?_
            exact LoadPost.bad HE.out (by decide) HX.out.drew
          · have HQ := hid_mk hq
            have HY0 := hid_mk (show ∀ x ∈ l.take (m + 1), blt x.key y.key from fun x hx => blt_le (HBL.out x hx _ HI.out) HQ.out)
            have HSTEP := hid_mk (show ldP clock none l = if clock < y.ctr then 30 else ldP clock (some y.key) (l.drop (m + 1 + 1)) by rw [HF.out, HS.out, if_neg (by simp [HZ.out]), if_neg (by rintro ⟨q, h1, h2⟩; rw [HI.out] at h1; cases h1; rw [HQ.out] at h2; cases h2)])
            go_wp2_with fail
            refine wp_region_held_below (fun _ => true) (.quiet 0 (.quiet 1 (.quiet 2 (.quiet 3 (.quiet 4 (.quiet 5 (.quiet 6 (.quiet 7 (.quiet 8 (.quiet 9 (.quiet 10 (.quiet 11 (.quiet 12 (.quiet 13 .done)))))))))))))) (by kernel_rfl) (by kernel_rfl) (by intro c a w d v h; cases d <;> exact h) (fun ops HO => ?_)
            refine plan_read _ (hi_of HO rfl) rfl (fun w' hE => by (repeat (with_reducible replace hE := Ext.unD hE)); have hcE := hE.hc; clear hE; go_simp; rfl) ?_
            simp only [Act.put, List.setIfInBounds_toArray, List.set_cons_succ, List.set_cons_zero]
            refine plan_read _ (hi_of HO rfl) rfl (fun w' hE => by (repeat (with_reducible replace hE := Ext.unD hE)); have hcE := hE.hc; clear hE; go_simp; rfl) ?_
            simp only [Act.put, List.setIfInBounds_toArray, List.set_cons_succ, List.set_cons_zero]
            refine plan_read _ (hi_of HO rfl) rfl (fun w' hE => by (repeat (with_reducible replace hE := Ext.unD hE)); have hcE := hE.hc; clear hE; go_simp; rfl) ?_
            simp only [Act.put, List.setIfInBounds_toArray, List.set_cons_succ, List.set_cons_zero]
            refine plan_read _ (hi_of HO rfl) (by rw [HO.out]; rfl) (fun w' hE => by (repeat (with_reducible replace hE := Ext.unD hE)); have hcE := hE.hc; clear hE; go_simp; rfl) ?_
            simp only [Act.put, List.setIfInBounds_toArray, List.set_cons_succ, List.set_cons_zero]
            refine plan_read _ (hi_of HO rfl) (by rw [HO.out]; rfl) (fun w' hE => by (repeat (with_reducible replace hE := Ext.unD hE)); have hcE := hE.hc; clear hE; go_simp; rfl) ?_
            simp only [Act.put, List.setIfInBounds_toArray, List.set_cons_succ, List.set_cons_zero]
            refine plan_read _ (hi_of HO rfl) (by rw [HO.out]; rfl) (fun w' hE => by (repeat (with_reducible replace hE := Ext.unD hE)); have hcE := hE.hc; clear hE; go_simp; rfl) ?_
            simp only [Act.put, List.setIfInBounds_toArray, List.set_cons_succ, List.set_cons_zero]
            refine plan_read _ (hi_of HO rfl) (by rw [HO.out]; rfl) (fun w' hE => by (repeat (with_reducible replace hE := Ext.unD hE)); have hcE := hE.hc; clear hE; go_simp; rfl) ?_
            simp only [Act.put, List.setIfInBounds_toArray, List.set_cons_succ, List.set_cons_zero]
            refine plan_read _ (hi_of HO rfl) (by rw [HO.out]; rfl) (fun w' hE => by (repeat (with_reducible replace hE := Ext.unD hE)); have hcE := hE.hc; clear hE; go_simp; rfl) ?_
            simp only [Act.put, List.setIfInBounds_toArray, List.set_cons_succ, List.set_cons_zero]
            refine plan_read _ (hi_of HO rfl) (by rw [HO.out]; rfl) (fun w' hE => by (repeat (with_reducible replace hE := Ext.unD hE)); have hcE := hE.hc; clear hE; go_simp; rfl) ?_
            simp only [Act.put, List.setIfInBounds_toArray, List.set_cons_succ, List.set_cons_zero]
            refine plan_read _ (hi_of HO rfl) (by rw [HO.out]; rfl) (fun w' hE => by (repeat (with_reducible replace hE := Ext.unD hE)); have hcE := hE.hc; clear hE; go_simp; rfl) ?_
            simp only [Act.put, List.setIfInBounds_toArray, List.set_cons_succ, List.set_cons_zero]
            refine plan_read _ (hi_of HO rfl) (by rw [HO.out]; rfl) (fun w' hE => by (repeat (with_reducible replace hE := Ext.unD hE)); have hcE := hE.hc; clear hE; go_simp; rfl) ?_
            simp only [Act.put, List.setIfInBounds_toArray, List.set_cons_succ, List.set_cons_zero]
            refine plan_read _ (hi_of HO rfl) (by rw [HO.out]; rfl) (fun w' hE => by (repeat (with_reducible replace hE := Ext.unD hE)); have hcE := hE.hc; clear hE; go_simp; rfl) ?_
            simp only [Act.put, List.setIfInBounds_toArray, List.set_cons_succ, List.set_cons_zero]
            refine plan_read _ (hi_of HO rfl) rfl (fun w' hE => by (repeat (with_reducible replace hE := Ext.unD hE)); have hcE := hE.hc; clear hE; go_simp; rfl) ?_
            simp only [Act.put, List.setIfInBounds_toArray, List.set_cons_succ, List.set_cons_zero]
            refine plan_read _ (hi_of HO rfl) rfl (fun w' hE => by (repeat (with_reducible replace hE := Ext.unD hE)); have hcE := hE.hc; clear hE; go_simp; rfl) ?_
            simp only [Act.put, List.setIfInBounds_toArray, List.set_cons_succ, List.set_cons_zero]
            refine plan_done ?fin104
            refine gen_world (P := Tryd.prog) (fun V => EnB4 V xb y ∧ StW V sb mb tb n ⟨node, clock, l.take (m + 1)⟩ ∧ Ext w V) ⟨HB.out.ext ((Ext.refl _).drew), HST.out.ext ((Ext.refl _).drew), HX.out.drew⟩ ?_
            rintro V ⟨hb, hs, hx⟩
            have HB' := hid_mk hb
            have HS' := hid_mk hs
            have HX' := hid_mk hx
            clear a0 a1 a2 a3 a4 f0 f1 f2 f3 f4 al hb hs hx
            have a0 := HB'.out.c0
            have a1 := HB'.out.c1
            have a2 := HB'.out.c2
            have a3 := HB'.out.c3
            have a4 := HB'.out.c4
            have f0 := HB'.out.f 0
            have f1 := HB'.out.f 1
            have f2 := HB'.out.f 2
            have f3 := HB'.out.f 3
            have f4 := HB'.out.f 4
            have al := HB'.out.lt
            by_cases hcl : clock < y.ctr
            · have HE := hid_mk (show ldE node clock l = 30 by rw [HP.out, HSTEP.out, if_pos hcl])
              go_wp2
              refine bodyPost_ret (v := .tuple #[.pointer none, .int .i64 30]) (by unfold results; rw [Tryd.results56]; go_simp; first | done | rfl) rfl ?_
              exact LoadPost.bad HE.out (by decide) HX'.out
            · replace HSTEP := hid_mk (show ldP clock none l = ldP clock (some y.key) (l.drop ((m + 1) + 1)) by rw [HSTEP.out, if_neg hcl])
              have HR := hid_mk (show roomE y.key (l.take (m + 1)) = true by unfold roomE; rw [decide_eq_true (by rw [List.length_take]; have := HN.out; omega), Bool.or_true])
              obtain ⟨L, hL⟩ : ∃ L, [tb, mb] = L := ⟨_, rfl⟩
              have HLE := hid_mk hL
              have c3 := HS'.out.c3
              have hsl := HS'.out.lt
              have hnS : sb ∉ L := by rw [← hL]; have := HS'.out.sm; have := HS'.out.st; simp; omega
              have hnE : xb ∉ L := by
                rw [← hL]
                have h1 := HS'.out.noM
                have h2 := HB'.out.b
                intro hh
                simp at hh
                rcases hh with rfl | rfl
                · obtain ⟨pv, T, t1, -⟩ := HS'.out.t
                  have h3 := t1.at_.c0
                  rw [HB'.out.c0] at h3
                  simp at h3
                · rw [HS'.out.m.b] at h2
                  simp at h2
              have HNS := hid_mk hnS
              have HNE := hid_mk hnE
              clear hL
              go_wp2_with fail
              refine wp_region_held_plan (Xl L) (fun _ => true) (.quiet 0 (.quiet 1 (.quiet 2 (.quiet 3 (.quiet 4 (.quiet 5 (.quiet 6 (.quiet 7 (.alt 8 (.alt 9 .done .stop) .stop))))))))) (by kernel_rfl) (by kernel_rfl) Xl.refl Xl.trans (by intro c a w d v h; cases d <;> exact h) (fun ops HO => ?_)
              refine plan_read _ (hi_of HO rfl) rfl (fun w' hE => by (repeat (with_reducible replace hE := Ext.unD hE)); have hcE := hE.hc; clear hE; go_simp; rfl) ?_
              simp only [Act.put, List.setIfInBounds_toArray, List.set_cons_succ, List.set_cons_zero]
              refine plan_read _ (hi_of HO rfl) rfl (fun w' hE => by (repeat (with_reducible replace hE := Ext.unD hE)); have hcE := hE.hc; clear hE; go_simp; rfl) ?_
              simp only [Act.put, List.setIfInBounds_toArray, List.set_cons_succ, List.set_cons_zero]
              refine plan_read _ (hi_of HO rfl) rfl (fun w' hE => by (repeat (with_reducible replace hE := Ext.unD hE)); have hcE := hE.hc; clear hE; go_simp; rfl) ?_
              simp only [Act.put, List.setIfInBounds_toArray, List.set_cons_succ, List.set_cons_zero]
              refine plan_read _ (hi_of HO rfl) rfl (fun w' hE => by have hcP := xl_hcL hE hsl hnS; clear hE; go_simp; rfl) ?_
              simp only [Act.put, List.setIfInBounds_toArray, List.set_cons_succ, List.set_cons_zero]
              refine plan_read _ (hi_of HO rfl) rfl (fun w' hE => by (repeat (with_reducible replace hE := Ext.unD hE)); have hcE := hE.hc; clear hE; go_simp; rfl) ?_
              simp only [Act.put, List.setIfInBounds_toArray, List.set_cons_succ, List.set_cons_zero]
              refine plan_read _ (hi_of HO rfl) rfl (fun w' hE => by have hcP := xl_hcL hE al hnE; clear hE; go_simp; rfl) ?_
              simp only [Act.put, List.setIfInBounds_toArray, List.set_cons_succ, List.set_cons_zero]
              refine plan_read _ (hi_of HO rfl) rfl (fun w' hE => by have hcP := xl_hcL hE al hnE; clear hE; go_simp; rfl) ?_
              simp only [Act.put, List.setIfInBounds_toArray, List.set_cons_succ, List.set_cons_zero]
              refine plan_read _ (hi_of HO rfl) rfl (fun w' hE => by have hcP := xl_hcL hE al hnE; clear hE; go_simp; rfl) ?_
              simp only [Act.put, List.setIfInBounds_toArray, List.set_cons_succ, List.set_cons_zero]
              refine plan_call1 en_tlOf (hi_of HO rfl) rfl rfl (by go_simp; rfl) (by exact tlOf_any y (HL.out.ext (Ext.trans _ _ _ HX'.out (by (repeat (first | exact Ext.refl _ | apply Ext.drew_left | apply Ext.drew | apply Ext.alloc)))))) ?_
              rintro r v8 ⟨rfl, hx⟩
              refine ⟨_, rfl, fun _ => Xl.of hx, ?_⟩
              have HV8 := hid_mk (Ext.unD hx)
              simp only [Act.put, List.setIfInBounds_toArray, List.set_cons_succ, List.set_cons_zero]
              clear hx
              refine plan_call1 en_TPut4 (hi_of HO rfl) rfl rfl (by go_simp; rfl) (by exact putS y (HS'.out.ext HV8.out) HR.out) ?_
              rintro r v9 ⟨rfl, hx, n9, hs, hc⟩
              rw [HLE.out] at hx
              refine ⟨_, rfl, fun _ => hx, ?_⟩
              have HX9 := hid_mk (Xl.ext (Ext.trans _ _ _ HX'.out HV8.out) hx (by rw [← HLE.out]; have := HBB.out; simp; omega))
              have HS9 := hid_mk (show StW v9 sb mb tb n9 ⟨node, clock, l.take ((m + 1) + 1)⟩ by
              have h := hs
              rw [HTK.out, ← insE_last HY0.out]
              exact h)
              simp only [Act.put, List.setIfInBounds_toArray, List.set_cons_succ, List.set_cons_zero]
              clear c3 hsl hx hs hc a0 a1 a2 a3 a4 f0 f1 f2 f3 f4 al hnS hnE
              refine plan_done ?fin105
              go_wp2
              go_roundw
              case rel => exact ⟨(m + 1) + 1, n9, by omega, (by first | exact congrArg (Value.int .i64) HW.out | rfl), by rw [HSTEP.out, show prevKey l ((m + 1) + 1) = some y.key by rw [← HY.out]; simp [prevKey, hlt]], by
                intro x hx q hq
                rw [show prevKey l ((m + 1) + 1) = some y.key by rw [← HY.out]; simp [prevKey, hlt]] at hq
                cases hq
                rw [HTK.out] at hx
                rcases List.mem_append.1 hx with hx | hx
                · exact blt_asymm (HY0.out x hx)
                · rw [List.mem_singleton.1 hx]; exact blt_irrefl _, HS9.out.ext (by (repeat (first | exact Ext.refl _ | apply Ext.drew_left | apply Ext.drew | apply Ext.alloc))), Ext.trans _ _ _ HX9.out (by (repeat (first | exact Ext.refl _ | apply Ext.drew_left | apply Ext.drew | apply Ext.alloc)))⟩
              case measure => (try simp only [HW.out]); simp [intOf]; omega
      · have HE := hid_mk (show ldE node clock l = z by rw [HP.out, HF.out, HS.out, if_pos (by intro h; exact hz0 (HZ.out.symm.trans h))]; exact HZ.out)
        have a0 := HB.out.c0
        have a1 := HB.out.c1
        have a2 := HB.out.c2
        have a3 := HB.out.c3
        have a4 := HB.out.c4
        have f0 := HB.out.f 0
        have f1 := HB.out.f 1
        have f2 := HB.out.f 2
        have f3 := HB.out.f 3
        have f4 := HB.out.f 4
        have al := HB.out.lt
        go_wp2
        refine bodyPost_ret (v := .tuple #[.pointer none, .int .i64 z]) (by unfold results; rw [Tryd.results56]; go_simp; first | done | rfl) rfl ?_
        exact LoadPost.bad HE.out hz0 HX.out
    · have hkl : k = l.length := by omega
      subst hkl
      go_wp2
      refine bodyPost_ret (v := .tuple #[.pointer (some ⟨sb, 0, none⟩), .int .i64 0]) (by unfold results; rw [Tryd.results56]; go_simp; first | done | rfl) rfl ?_
      refine .inl ⟨by rw [HP.out, HF.out, List.drop_length]; rfl, sb, mb, tb, n, rfl, HBB.out, ?_, HX.out⟩
      have := HST.out
      rwa [List.take_length] at this
end Go.Proofs.YtokcgnbjkbhmiaaDoor
