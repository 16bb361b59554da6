/- Ghosts: Held, Wrote. -/
import Derived.Test.YtiimoaplhhnklaaHC
namespace Go.Proofs.Ytiimoaplhhnklaa
open Go.RowKit
set_option maxHeartbeats 4000000
set_option maxRecDepth 100000
set_option linter.unusedSimpArgs false
set_option linter.unusedVariables false
attribute [local go_sem ↓] eql_entE neq_entE

def isNd (n : Int) : Bool := decide (0 ≤ n ∧ n < 8)
theorem isNd_at {n : Int} (h : isNd n = true) : ∃ k : Nat, k < 8 ∧ n = (k : Int) := by
  have := of_decide_eq_true h
  exact ⟨n.toNat, by omega, by omega⟩
def heldL (n : Int) (ls : Nat → List Ent) : List Ent := if isNd n then ls n.toNat else []
theorem gheld_any {w : World} {gb mb : Nat} {A : List Ent} {sv : Nat → Value} {ls : Nat → List Ent} (h : GhAt w gb mb A sv ls) (n : Int) (hl : ∀ i, i < 8 → (ls i).length ≤ 1073741824) :
    Calls Try.prog 14 #[.pointer (some ⟨gb, 0, none⟩), .int .i64 n] w fun e w' => ∃ v, e = .returned v ∧ ENew w.heap.size w' v (heldL n ls) ∧ Shp w.heap.size w' 31 5 v ∧ Ext w w' := by
  have H := hid_mk h
  have HLEN := hid_mk hl
  have hgl := h.lt.1
  clear h hl
  obtain ⟨b, hb⟩ : ∃ b, isNd n = b := ⟨_, rfl⟩
  have HBE := hid_mk hb
  cases b with
  | false =>
    clear hb
    go_enter Try.func14, Try.ntmps14
    go_wp2_with fail
    refine (gnode_any _ _).mono ?_
    rintro e w1 ⟨rfl, rfl⟩
    rw [show decide (0 ≤ n ∧ n < 8) = false from HBE.out]
    go_wp2
    go_ret
    refine ⟨_, rfl, ?_, Shp.zero, Ext.refl _⟩
    rw [heldL, if_neg (by rw [HBE.out]; simp)]
    exact ⟨⟨none, 0, rfl, Nat.le_refl _, by simp, fun h => by simp at h⟩, fun b o n c e hn => by cases e⟩
  | true =>
    obtain ⟨k, hk, rfl⟩ := isNd_at hb
    obtain ⟨c0, -⟩ := H.out.cs hk
    have hk8 : (k : Int) < 8 := by omega
    have hk0 : (0 : Int) ≤ (k : Int) := by omega
    obtain ⟨a9, c9, e9, -⟩ := H.out.sl k hk
    rw [e9] at c0
    have HE9 := hid_mk e9
    clear hb e9
    go_enter Try.func14, Try.ntmps14
    go_wp2_with fail
    refine (gnode_any _ _).mono ?_
    rintro e w1 ⟨rfl, rfl⟩
    rw [show decide ((0 : Int) ≤ (k : Int) ∧ (k : Int) < 8) = true from HBE.out]
    go_wp2_with fail
    refine (cloneEnt_any (ls k) _ _ (by rw [← HE9.out]; exact H.out.sl k hk) (HLEN.out k hk)).mono ?_
    rintro e w2 ⟨a2, c2, rfl, h2, hx2, hsh, hc2⟩
    have HN := hid_mk (And.intro (clone_new (HLEN.out k hk) h2 hc2) (And.intro hsh hx2))
    clear h2 hx2 hsh hc2
    go_wp2
    go_ret
    refine ⟨_, rfl, ?_, HN.out.2.1, HN.out.2.2⟩
    rw [heldL, if_pos HBE.out, Int.toNat_natCast]
    exact HN.out.1
/-- What a call leaves of a ghost. -/
def GPost (w : World) (gb mb : Nat) (sv : Nat → Value) (A' : List Ent) (ls' : Nat → List Ent) (w' : World) : Prop :=
  ∃ sv', GhAt w' gb mb A' sv' ls' ∧ Xl [gb, mb] w w' ∧ ∀ i, i < 8 → sv' i = sv i ∨ ∀ b o n c, sv' i = .slice (some ⟨b, o, none⟩) n c → 0 < n → w.heap.size ≤ b
theorem gpost_ext {w w' : World} {gb mb : Nat} {A : List Ent} {sv : Nat → Value} {ls : Nat → List Ent} (h : GhAt w gb mb A sv ls) (hx : Ext w w') : GPost w gb mb sv A ls w' := ⟨sv, h.ext hx, Xl.of hx, fun i hi => .inl rfl⟩
def wroteE (e : Ent) (A : List Ent) : Int := if eChk e ≠ 0 then eChk e else match findN (nk e) A with | some y => if y = e then 0 else 190 | none => 0
def wroteA (e : Ent) (A : List Ent) : List Ent := if eChk e ≠ 0 then A else match findN (nk e) A with | some _ => A | none => A ++ [e]
theorem findN_app {n : NK} {A : List Ent} {e : Ent} (h : findN (nk e) A = none) : findN n (A ++ [e]) = if n = nk e then some e else findN n A := by
  unfold findN at h ⊢
  rw [List.find?_append]
  by_cases hn : n = nk e
  · subst hn
    rw [h, if_pos rfl]
    simp
  · rw [if_neg hn]
    have : (decide (nk e = n)) = false := by simp [Ne.symm hn]
    cases hf : List.find? (fun x => decide (nk x = n)) A <;> simp [this]
theorem noTw_app {A : List Ent} {e : Ent} (h : NoTw A) (hf : findN (nk e) A = none) : NoTw (A ++ [e]) := by
  have hn : ∀ x ∈ A, nk x ≠ nk e := fun x hx => by
    have := List.find?_eq_none.1 hf x hx
    simpa using this
  intro x hx y hy hxy
  rcases List.mem_append.1 hx with hx | hx <;> rcases List.mem_append.1 hy with hy | hy
  · exact h x hx y hy hxy
  · rw [List.mem_singleton] at hy; subst hy; exact absurd hxy (hn x (by assumption))
  · rw [List.mem_singleton] at hx; subst hx; exact absurd hxy.symm (hn y (by assumption))
  · simp at hx hy; rw [hx, hy]
theorem noTw_wrote {A : List Ent} {e : Ent} (h : NoTw A) : NoTw (wroteA e A) := by
  unfold wroteA
  split
  · exact h
  · split
    · exact h
    · rename_i hf
      exact noTw_app h hf
theorem GhAt.stored {w w' : World} {gb mb : Nat} {A : List Ent} {sv : Nat → Value} {ls : Nat → List Ent} (h : GhAt w gb mb A sv ls) {A' : List Ent} (hm : ∃ M, MapAt nkV entV w' mb M ∧ ∀ n, mget n M = findN n A') (hx : Xl [mb] w w') : GhAt w' gb mb A' sv ls :=
  ⟨(hx.block gb h.lt.1 (by simpa using h.ne)).trans h.blk, hm, fun i hi => (h.sl i hi).xl hx ((h.aw i hi).mono (by simp)), h.aw, h.ne⟩
theorem mapAt_xl {α β : Type} {ek : α → Value} {ev : β → Value} {L : List Nat} {w w' : World} {b : Nat} {M : List (α × β)} (h : MapAt ek ev w b M) (hx : Xl L w w') (hn : b ∉ L) : MapAt ek ev w' b M := by
  obtain ⟨es, clock, h1, h2⟩ := h
  exact ⟨es, clock, (hx.block b (Array.getElem?_eq_some_iff.1 h1).1 hn).trans h1, h2⟩
theorem Xl.mono' {L L' : List Nat} {w w' : World} (h : Xl L w w') (hs : ∀ k ∈ L, k ∈ L') : Xl L' w w' := ⟨h.os, h.tape, h.output, h.size, fun k hk hn => h.block k hk (fun h' => hn (hs k h'))⟩
theorem gen_codeH {P : Program} {c : Code} {Q : Exit → Act → World → Prop} {a : Act} {w : World} (R : World → Prop) (h0 : R w) (h : ∀ W, R W → c.wp P Q a W) : c.wp P Q a w := h w h0
theorem gwrote_any {w : World} {gb mb : Nat} {A : List Ent} {sv : Nat → Value} {ls : Nat → List Ent} (h : GhAt w gb mb A sv ls) (x : Ent) :
    Calls Try.prog 17 #[.pointer (some ⟨gb, 0, none⟩), entV x] w fun e w' => e = .returned (.int .i64 (wroteE x A)) ∧ GPost w gb mb sv (wroteA x A) ls w' := by
  have H := hid_mk h
  obtain ⟨r, hr⟩ : ∃ r, findN (nk x) A = r := ⟨_, rfl⟩
  obtain ⟨z, hz⟩ : ∃ z, entCheck x.key x.ctr x.node x.val x.dead = z := ⟨_, rfl⟩
  have HR := hid_mk hr
  have HZ := hid_mk hz
  have HL := hid_mk (fun (W : World) (hx : Ext w W) => (show (Instr.lookup 83 (.map (some mb)) (.agg #[.string x.key, .int .i64 x.ctr, .int .i64 x.node]) true).run Try.prog W = .ok (.tuple #[(r.map entV).getD (entV zE), .bool r.isSome]) W by rw [← hr]; exact lookG (h.ext hx) (nk x)))
  obtain ⟨re, hre⟩ : ∃ re, wroteE x A = re := ⟨_, rfl⟩
  obtain ⟨rA, hrA⟩ : ∃ rA, wroteA x A = rA := ⟨_, rfl⟩
  have HRE := hid_mk hre
  have HRA := hid_mk hrA
  rw [hre, hrA]
  clear h hr hz hre hrA
  dsimp only [entV]
  go_enter Try.func17, Try.ntmps17
  go_wp2_with fail
  refine (iCheck_any _ _ _ _ _ _).mono ?_
  rintro e w1 ⟨rfl, hx1⟩
  rw [HZ.out]
  have hE1 : EntAt w1 w.heap.size 0 x := EntAt.ext (w := w.alloc (.cells #[.string x.key, .int .i64 x.ctr, .int .i64 x.node, .string x.val, .bool x.dead] 31)) ⟨by go_simp, by go_simp, by go_simp, by go_simp, by go_simp⟩ hx1
  have HX1 := hid_mk (Ext.trans _ _ _ (show Ext w (w.alloc (.cells #[.string x.key, .int .i64 x.ctr, .int .i64 x.node, .string x.val, .bool x.dead] 31)) by (repeat (first | exact Ext.refl _ | apply Ext.drew_left | apply Ext.drew | apply Ext.alloc))) hx1)
  obtain ⟨xb, hxb⟩ : ∃ xb, w.heap.size = xb := ⟨_, rfl⟩
  rw [hxb] at hE1 ⊢
  have HXB := hid_mk hxb
  clear hx1 hxb
  obtain ⟨a0, a1, a2, a3, a4⟩ := hE1
  have hxl := cell_lt a0
  have hxl1 : xb < w1.heap.size + 1 := by omega
  have hxl2 : xb < w1.heap.size + 1 + 1 := by omega
  have g0 := (H.out.ext HX1.out).c0
  have hgl := cell_lt g0
  have hgl1 : gb < w1.heap.size + 1 := by omega
  have hgl2 : gb < w1.heap.size + 1 + 1 := by omega
  by_cases hz : z = 0
  · subst hz
    have HRE' := hid_mk (show (match findN (nk x) A with | some y => if y = x then 0 else 190 | none => 0) = re by rw [← HRE.out, wroteE, if_neg (by rw [eChk, HZ.out]; simp)])
    have HRA' := hid_mk (show (match findN (nk x) A with | some _ => A | none => A ++ [x]) = rA by rw [← HRA.out, wroteA, if_neg (by rw [eChk, HZ.out]; simp)])
    rw [HR.out] at HRE' HRA'
    cases r with
    | none =>
      dsimp only at HRE' HRA'
      simp only [Option.map_none, Option.getD_none, Option.isSome_none] at HL
      dsimp only [entV, zE] at HL
      go_wp2_with fail
      refine wp_region_held_planC Ext (fun i => i != 10) (fun i => [0, 1, 2, 6, 7, 8, 11].contains i) (.quiet 0 (.quiet 1 (.quiet 2 (.quiet 3 (.quiet 4 (.quiet 5 (.quiet 6 (.quiet 7 (.quiet 8 (.alt 9 (.alt 10 (.quiet 11 .done) .stop) .stop)))))))))) (by kernel_rfl) (by kernel_rfl) Ext.refl Ext.trans (by intro c a w d v h; cases d <;> exact h) (fun ops HO => ?_)
      refine planC_calm _ (hi_of HO rfl) rfl (fun w' => by go_simp; rfl) ?_
      simp only [Act.put, List.setIfInBounds_toArray, List.set_cons_succ, List.set_cons_zero]
      refine planC_calm _ (hi_of HO rfl) rfl (fun w' => by go_simp; rfl) ?_
      simp only [Act.put, List.setIfInBounds_toArray, List.set_cons_succ, List.set_cons_zero]
      refine planC_calm _ (hi_of HO rfl) rfl (fun w' => by go_simp; rfl) ?_
      simp only [Act.put, List.setIfInBounds_toArray, List.set_cons_succ, List.set_cons_zero]
      refine planC_read _ (hi_of HO rfl) rfl rfl (fun w' hE => by (repeat (with_reducible replace hE := Ext.unD hE)); have hcE := hE.hc; clear hE; go_simp; rfl) ?_
      simp only [Act.put, List.setIfInBounds_toArray, List.set_cons_succ, List.set_cons_zero]
      refine planC_read _ (hi_of HO rfl) rfl rfl (fun w' hE => by (repeat (with_reducible replace hE := Ext.unD hE)); have hcE := hE.hc; clear hE; go_simp; rfl) ?_
      simp only [Act.put, List.setIfInBounds_toArray, List.set_cons_succ, List.set_cons_zero]
      refine planC_read _ (hi_of HO rfl) rfl rfl (fun w' hE => by have hL := HL.out w' (Ext.trans _ _ _ HX1.out (Ext.trans _ _ _ (by (repeat (first | exact Ext.refl _ | apply Ext.drew_left | apply Ext.drew | apply Ext.alloc))) hE)); clear hE; go_simp; rfl) ?_
      simp only [Act.put, List.setIfInBounds_toArray, List.set_cons_succ, List.set_cons_zero]
      refine planC_calm _ (hi_of HO rfl) rfl (fun w' => by go_simp; rfl) ?_
      simp only [Act.put, List.setIfInBounds_toArray, List.set_cons_succ, List.set_cons_zero]
      refine planC_calm _ (hi_of HO rfl) rfl (fun w' => by go_simp; rfl) ?_
      simp only [Act.put, List.setIfInBounds_toArray, List.set_cons_succ, List.set_cons_zero]
      refine planC_calm _ (hi_of HO rfl) rfl (fun w' => by go_simp; rfl) ?_
      simp only [Act.put, List.setIfInBounds_toArray, List.set_cons_succ, List.set_cons_zero]
      refine planC_loud1 (hi_of HO rfl) rfl ?_
      go_simp
      refine ⟨by (repeat (first | exact Ext.refl _ | apply Ext.drew_left | apply Ext.drew | apply Ext.alloc)), ?_⟩
      refine planC_loud1 (hi_of HO rfl) rfl ?_
      go_simp
      skip
      refine planC_calm _ (hi_of HO rfl) rfl (fun w' => by go_simp; rfl) ?_
      simp only [Act.put, List.setIfInBounds_toArray, List.set_cons_succ, List.set_cons_zero]
      refine planC_done ?fin101
      go_wp2_with fail
      refine gen_codeH (fun W7 => Ext w1 W7 ∧ W7.cell? ⟨w1.heap.size, 0, none⟩ = some (.string x.key) ∧ W7.cell? ⟨w1.heap.size, 1, none⟩ = some (.int .i64 x.ctr) ∧ W7.cell? ⟨w1.heap.size, 2, none⟩ = some (.int .i64 x.node)) ⟨by (repeat (first | exact Ext.refl _ | apply Ext.drew_left | apply Ext.drew | apply Ext.alloc)), by go_simp, by go_simp, by go_simp⟩ ?_
      rintro W7 ⟨hx7, n0, n1, n2⟩
      have e0 := cell_ext hx7 a0
      have e1 := cell_ext hx7 a1
      have e2 := cell_ext hx7 a2
      have e3 := cell_ext hx7 a3
      have e4 := cell_ext hx7 a4
      have g7 := cell_ext hx7 g0
      obtain ⟨nb, hnb⟩ : ∃ nb, w1.heap.size = nb := ⟨_, rfl⟩
      rw [hnb] at n0 n1 n2 ⊢
      have H7 := hid_mk (H.out.ext (Ext.trans _ _ _ HX1.out hx7))
      obtain ⟨M, hm, hM⟩ := H7.out.map
      obtain ⟨W8, hrun, hm8, hx8⟩ := map_store key_nk Try.underlying83 (w := W7.drew) (mapAt_xl (L := []) hm (Xl.of ((Ext.refl W7).drew)) (by simp)) (nk x) x
      have hx8' : Xl [mb] W7 W8 := Xl.trans _ _ _ (Xl.of ((Ext.refl W7).drew)) hx8
      have HP : Hid (GPost w gb mb sv rA ls W8) := hid_mk ⟨sv, GhAt.stored H7.out ⟨_, hm8, fun n => by
        rw [← HRA'.out]
        by_cases hn : n = nk x
        · subst hn
          rw [mget_set_at]
          rw [findN_app HR.out, if_pos rfl]
        · rw [mget_set_other hn, hM n]
          rw [findN_app HR.out, if_neg hn]⟩ hx8', Xl.trans _ _ _ (Xl.of (Ext.trans _ _ _ HX1.out hx7)) (hx8'.mono' (by simp)), fun i hi => .inl rfl⟩
      have hl7 := cell_lt e0
      have hg7 := cell_lt g7
      have hn7 := cell_lt n0
      have hrun' : (Instr.mapUpdate 83 (.map (some mb)) (.agg #[.string x.key, .int .i64 x.ctr, .int .i64 x.node]) (.agg #[.string x.key, .int .i64 x.ctr, .int .i64 x.node, .string x.val, .bool x.dead])).run Try.prog W7.drew = .ok () W8 := hrun
      have HRUN := hid_mk hrun'
      clear hrun hrun' hm8 hx8 hx8' hm hM hnb hx7 a0 a1 a2 a3 a4 g0 hxl hxl1 hxl2 hgl hgl1 hgl2
      go_wp2_with fail
      refine wp_region_held_planC Ext (fun i => i != 6) (fun i => [0, 1, 2].contains i) (.quiet 0 (.quiet 1 (.quiet 2 (.quiet 3 (.quiet 4 (.quiet 5 (.alt 6 .done .stop))))))) (by kernel_rfl) (by kernel_rfl) Ext.refl Ext.trans (by intro c a w d v h; cases d <;> exact h) (fun ops HO => ?_)
      refine planC_calm _ (hi_of HO rfl) rfl (fun w' => by go_simp; rfl) ?_
      simp only [Act.put, List.setIfInBounds_toArray, List.set_cons_succ, List.set_cons_zero]
      refine planC_calm _ (hi_of HO rfl) rfl (fun w' => by go_simp; rfl) ?_
      simp only [Act.put, List.setIfInBounds_toArray, List.set_cons_succ, List.set_cons_zero]
      refine planC_calm _ (hi_of HO rfl) rfl (fun w' => by go_simp; rfl) ?_
      simp only [Act.put, List.setIfInBounds_toArray, List.set_cons_succ, List.set_cons_zero]
      refine planC_read _ (hi_of HO rfl) rfl rfl (fun w' hE => by (repeat (with_reducible replace hE := Ext.unD hE)); have hcE := hE.hc; clear hE; go_simp; rfl) ?_
      simp only [Act.put, List.setIfInBounds_toArray, List.set_cons_succ, List.set_cons_zero]
      refine planC_read _ (hi_of HO rfl) rfl rfl (fun w' hE => by (repeat (with_reducible replace hE := Ext.unD hE)); have hcE := hE.hc; clear hE; go_simp; rfl) ?_
      simp only [Act.put, List.setIfInBounds_toArray, List.set_cons_succ, List.set_cons_zero]
      refine planC_read _ (hi_of HO rfl) rfl rfl (fun w' hE => by (repeat (with_reducible replace hE := Ext.unD hE)); have hcE := hE.hc; clear hE; go_simp; rfl) ?_
      simp only [Act.put, List.setIfInBounds_toArray, List.set_cons_succ, List.set_cons_zero]
      have hrun := HRUN.out
      refine planC_loud1 (hi_of HO rfl) rfl ?_
      go_simp
      clear hrun
      refine planC_done ?fin102
      go_wp2
      go_ret
      exact ⟨ret_int HRE'.out, HP.out⟩
    | some y =>
      simp only [Option.map_some, Option.getD_some, Option.isSome_some] at HL
      dsimp only [entV] at HL
      by_cases hyx : y = x
      · have hxy := hyx.symm
        subst hxy
        dsimp only at HRE' HRA'
        rw [if_pos rfl] at HRE'
        go_wp2_with fail
        refine wp_region_held_planC Ext (fun i => i != 10) (fun i => [0, 1, 2, 6, 7, 8, 11].contains i) (.quiet 0 (.quiet 1 (.quiet 2 (.quiet 3 (.quiet 4 (.quiet 5 (.quiet 6 (.quiet 7 (.quiet 8 (.alt 9 (.alt 10 (.quiet 11 .done) .stop) .stop)))))))))) (by kernel_rfl) (by kernel_rfl) Ext.refl Ext.trans (by intro c a w d v h; cases d <;> exact h) (fun ops HO => ?_)
        refine planC_calm _ (hi_of HO rfl) rfl (fun w' => by go_simp; rfl) ?_
        simp only [Act.put, List.setIfInBounds_toArray, List.set_cons_succ, List.set_cons_zero]
        refine planC_calm _ (hi_of HO rfl) rfl (fun w' => by go_simp; rfl) ?_
        simp only [Act.put, List.setIfInBounds_toArray, List.set_cons_succ, List.set_cons_zero]
        refine planC_calm _ (hi_of HO rfl) rfl (fun w' => by go_simp; rfl) ?_
        simp only [Act.put, List.setIfInBounds_toArray, List.set_cons_succ, List.set_cons_zero]
        refine planC_read _ (hi_of HO rfl) rfl rfl (fun w' hE => by (repeat (with_reducible replace hE := Ext.unD hE)); have hcE := hE.hc; clear hE; go_simp; rfl) ?_
        simp only [Act.put, List.setIfInBounds_toArray, List.set_cons_succ, List.set_cons_zero]
        refine planC_read _ (hi_of HO rfl) rfl rfl (fun w' hE => by (repeat (with_reducible replace hE := Ext.unD hE)); have hcE := hE.hc; clear hE; go_simp; rfl) ?_
        simp only [Act.put, List.setIfInBounds_toArray, List.set_cons_succ, List.set_cons_zero]
        refine planC_read _ (hi_of HO rfl) rfl rfl (fun w' hE => by have hL := HL.out w' (Ext.trans _ _ _ HX1.out (Ext.trans _ _ _ (by (repeat (first | exact Ext.refl _ | apply Ext.drew_left | apply Ext.drew | apply Ext.alloc))) hE)); clear hE; go_simp; rfl) ?_
        simp only [Act.put, List.setIfInBounds_toArray, List.set_cons_succ, List.set_cons_zero]
        refine planC_calm _ (hi_of HO rfl) rfl (fun w' => by go_simp; rfl) ?_
        simp only [Act.put, List.setIfInBounds_toArray, List.set_cons_succ, List.set_cons_zero]
        refine planC_calm _ (hi_of HO rfl) rfl (fun w' => by go_simp; rfl) ?_
        simp only [Act.put, List.setIfInBounds_toArray, List.set_cons_succ, List.set_cons_zero]
        refine planC_calm _ (hi_of HO rfl) rfl (fun w' => by go_simp; rfl) ?_
        simp only [Act.put, List.setIfInBounds_toArray, List.set_cons_succ, List.set_cons_zero]
        refine planC_loud1 (hi_of HO rfl) rfl ?_
        go_simp
        refine ⟨by (repeat (first | exact Ext.refl _ | apply Ext.drew_left | apply Ext.drew | apply Ext.alloc)), ?_⟩
        refine planC_loud1 (hi_of HO rfl) rfl ?_
        go_simp
        skip
        refine planC_calm _ (hi_of HO rfl) rfl (fun w' => by go_simp; rfl) ?_
        simp only [Act.put, List.setIfInBounds_toArray, List.set_cons_succ, List.set_cons_zero]
        refine planC_done ?fin103
        go_wp2_with fail
        refine gen_codeH (fun W7 => Ext w1 W7 ∧ W7.cell? ⟨w1.heap.size, 0, none⟩ = some (.string x.key) ∧ W7.cell? ⟨w1.heap.size, 1, none⟩ = some (.int .i64 x.ctr) ∧ W7.cell? ⟨w1.heap.size, 2, none⟩ = some (.int .i64 x.node)) ⟨by (repeat (first | exact Ext.refl _ | apply Ext.drew_left | apply Ext.drew | apply Ext.alloc)), by go_simp, by go_simp, by go_simp⟩ ?_
        rintro W7 ⟨hx7, n0, n1, n2⟩
        have e0 := cell_ext hx7 a0
        have e1 := cell_ext hx7 a1
        have e2 := cell_ext hx7 a2
        have e3 := cell_ext hx7 a3
        have e4 := cell_ext hx7 a4
        have g7 := cell_ext hx7 g0
        obtain ⟨nb, hnb⟩ : ∃ nb, w1.heap.size = nb := ⟨_, rfl⟩
        rw [hnb] at n0 n1 n2 ⊢
        have H7 := hid_mk (H.out.ext (Ext.trans _ _ _ HX1.out hx7))
        obtain ⟨M, hm, hM⟩ := H7.out.map
        obtain ⟨W8, hrun, hm8, hx8⟩ := map_store key_nk Try.underlying83 (w := W7.drew) (mapAt_xl (L := []) hm (Xl.of ((Ext.refl W7).drew)) (by simp)) (nk x) x
        have hx8' : Xl [mb] W7 W8 := Xl.trans _ _ _ (Xl.of ((Ext.refl W7).drew)) hx8
        have HP : Hid (GPost w gb mb sv rA ls W8) := hid_mk ⟨sv, GhAt.stored H7.out ⟨_, hm8, fun n => by
          rw [← HRA'.out]
          by_cases hn : n = nk x
          · subst hn
            rw [mget_set_at]
            rw [HR.out]
          · rw [mget_set_other hn, hM n]
            skip⟩ hx8', Xl.trans _ _ _ (Xl.of (Ext.trans _ _ _ HX1.out hx7)) (hx8'.mono' (by simp)), fun i hi => .inl rfl⟩
        have hl7 := cell_lt e0
        have hg7 := cell_lt g7
        have hn7 := cell_lt n0
        have hrun' : (Instr.mapUpdate 83 (.map (some mb)) (.agg #[.string x.key, .int .i64 x.ctr, .int .i64 x.node]) (.agg #[.string x.key, .int .i64 x.ctr, .int .i64 x.node, .string x.val, .bool x.dead])).run Try.prog W7.drew = .ok () W8 := hrun
        have HRUN := hid_mk hrun'
        clear hrun hrun' hm8 hx8 hx8' hm hM hnb hx7 a0 a1 a2 a3 a4 g0 hxl hxl1 hxl2 hgl hgl1 hgl2
        go_wp2_with fail
        refine wp_region_held_planC Ext (fun i => i != 6) (fun i => [0, 1, 2].contains i) (.quiet 0 (.quiet 1 (.quiet 2 (.quiet 3 (.quiet 4 (.quiet 5 (.alt 6 .done .stop))))))) (by kernel_rfl) (by kernel_rfl) Ext.refl Ext.trans (by intro c a w d v h; cases d <;> exact h) (fun ops HO => ?_)
        refine planC_calm _ (hi_of HO rfl) rfl (fun w' => by go_simp; rfl) ?_
        simp only [Act.put, List.setIfInBounds_toArray, List.set_cons_succ, List.set_cons_zero]
        refine planC_calm _ (hi_of HO rfl) rfl (fun w' => by go_simp; rfl) ?_
        simp only [Act.put, List.setIfInBounds_toArray, List.set_cons_succ, List.set_cons_zero]
        refine planC_calm _ (hi_of HO rfl) rfl (fun w' => by go_simp; rfl) ?_
        simp only [Act.put, List.setIfInBounds_toArray, List.set_cons_succ, List.set_cons_zero]
        refine planC_read _ (hi_of HO rfl) rfl rfl (fun w' hE => by (repeat (with_reducible replace hE := Ext.unD hE)); have hcE := hE.hc; clear hE; go_simp; rfl) ?_
        simp only [Act.put, List.setIfInBounds_toArray, List.set_cons_succ, List.set_cons_zero]
        refine planC_read _ (hi_of HO rfl) rfl rfl (fun w' hE => by (repeat (with_reducible replace hE := Ext.unD hE)); have hcE := hE.hc; clear hE; go_simp; rfl) ?_
        simp only [Act.put, List.setIfInBounds_toArray, List.set_cons_succ, List.set_cons_zero]
        refine planC_read _ (hi_of HO rfl) rfl rfl (fun w' hE => by (repeat (with_reducible replace hE := Ext.unD hE)); have hcE := hE.hc; clear hE; go_simp; rfl) ?_
        simp only [Act.put, List.setIfInBounds_toArray, List.set_cons_succ, List.set_cons_zero]
        have hrun := HRUN.out
        refine planC_loud1 (hi_of HO rfl) rfl ?_
        go_simp
        clear hrun
        refine planC_done ?fin104
        go_wp2
        go_ret
        exact ⟨ret_int HRE'.out, HP.out⟩
      · dsimp only at HRE' HRA'
        rw [if_neg hyx] at HRE'
        have hne : decide (¬ y = x) = true := decide_eq_true hyx
        go_wp2_with fail
        refine wp_region_held_planC Ext (fun i => i != 10) (fun i => [0, 1, 2, 6, 7, 8, 11].contains i) (.quiet 0 (.quiet 1 (.quiet 2 (.quiet 3 (.quiet 4 (.quiet 5 (.quiet 6 (.quiet 7 (.quiet 8 (.alt 9 (.alt 10 (.quiet 11 .done) .stop) .stop)))))))))) (by kernel_rfl) (by kernel_rfl) Ext.refl Ext.trans (by intro c a w d v h; cases d <;> exact h) (fun ops HO => ?_)
        refine planC_calm _ (hi_of HO rfl) rfl (fun w' => by go_simp; rfl) ?_
        simp only [Act.put, List.setIfInBounds_toArray, List.set_cons_succ, List.set_cons_zero]
        refine planC_calm _ (hi_of HO rfl) rfl (fun w' => by go_simp; rfl) ?_
        simp only [Act.put, List.setIfInBounds_toArray, List.set_cons_succ, List.set_cons_zero]
        refine planC_calm _ (hi_of HO rfl) rfl (fun w' => by go_simp; rfl) ?_
        simp only [Act.put, List.setIfInBounds_toArray, List.set_cons_succ, List.set_cons_zero]
        refine planC_read _ (hi_of HO rfl) rfl rfl (fun w' hE => by (repeat (with_reducible replace hE := Ext.unD hE)); have hcE := hE.hc; clear hE; go_simp; rfl) ?_
        simp only [Act.put, List.setIfInBounds_toArray, List.set_cons_succ, List.set_cons_zero]
        refine planC_read _ (hi_of HO rfl) rfl rfl (fun w' hE => by (repeat (with_reducible replace hE := Ext.unD hE)); have hcE := hE.hc; clear hE; go_simp; rfl) ?_
        simp only [Act.put, List.setIfInBounds_toArray, List.set_cons_succ, List.set_cons_zero]
        refine planC_read _ (hi_of HO rfl) rfl rfl (fun w' hE => by have hL := HL.out w' (Ext.trans _ _ _ HX1.out (Ext.trans _ _ _ (by (repeat (first | exact Ext.refl _ | apply Ext.drew_left | apply Ext.drew | apply Ext.alloc))) hE)); clear hE; go_simp; rfl) ?_
        simp only [Act.put, List.setIfInBounds_toArray, List.set_cons_succ, List.set_cons_zero]
        refine planC_calm _ (hi_of HO rfl) rfl (fun w' => by go_simp; rfl) ?_
        simp only [Act.put, List.setIfInBounds_toArray, List.set_cons_succ, List.set_cons_zero]
        refine planC_calm _ (hi_of HO rfl) rfl (fun w' => by go_simp; rfl) ?_
        simp only [Act.put, List.setIfInBounds_toArray, List.set_cons_succ, List.set_cons_zero]
        refine planC_calm _ (hi_of HO rfl) rfl (fun w' => by go_simp; rfl) ?_
        simp only [Act.put, List.setIfInBounds_toArray, List.set_cons_succ, List.set_cons_zero]
        refine planC_loud1 (hi_of HO rfl) rfl ?_
        go_simp
        refine ⟨by (repeat (first | exact Ext.refl _ | apply Ext.drew_left | apply Ext.drew | apply Ext.alloc)), ?_⟩
        refine planC_loud1 (hi_of HO rfl) rfl ?_
        go_simp
        skip
        refine planC_calm _ (hi_of HO rfl) rfl (fun w' => by go_simp; rfl) ?_
        simp only [Act.put, List.setIfInBounds_toArray, List.set_cons_succ, List.set_cons_zero]
        refine planC_done ?fin105
        go_wp2
        go_ret
        exact ⟨ret_int HRE'.out, by rw [← HRA'.out]; exact gpost_ext H.out (Ext.trans _ _ _ HX1.out (by (repeat (first | exact Ext.refl _ | apply Ext.drew_left | apply Ext.drew | apply Ext.alloc))))⟩
  · go_wp2
    go_ret
    exact ⟨ret_int (by rw [← HRE.out, wroteE, if_pos (by rw [eChk, HZ.out]; exact hz), eChk, HZ.out]), by rw [← HRA.out, wroteA, if_pos (by rw [eChk, HZ.out]; exact hz)]; exact gpost_ext H.out HX1.out⟩
end Go.Proofs.Ytiimoaplhhnklaa
