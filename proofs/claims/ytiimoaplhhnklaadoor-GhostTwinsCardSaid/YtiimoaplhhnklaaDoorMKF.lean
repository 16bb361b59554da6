/- Judging: the entries of a list that lie in a range; their keys. Judging: the document's entries of a list that lie in a range; their keys. Cuts: keys that rise; both checks of them. -/
import Derived.Test.YtiimoaplhhnklaaDoorMKD
import Derived.Test.YtiimoaplhhnklaaDoorMJD
namespace Go.Proofs.YtiimoaplhhnklaaDoor
open Go.RowKit Go.Lib
set_option maxHeartbeats 4000000
set_option maxRecDepth 100000
set_option linter.unusedSimpArgs false
set_option linter.unusedVariables false
attribute [-go_sem] Builtin.append_
theorem en_mIn : Enters Tryd.prog 11 := ⟨_, Tryd.func11, by kernel_rfl, rfl⟩
theorem en_r9In : Enters Tryd.prog 54 := ⟨_, Tryd.func54, by kernel_rfl, rfl⟩
abbrev rngV (lo hi : ByteArray) (op : Bool) : Value := .agg #[.string lo, .string hi, .bool op]
def holdE (lo hi : ByteArray) (op : Bool) (e : Ent) : Bool := rngHolds lo hi op e.key
def inF (lo hi : ByteArray) (op : Bool) (l : List Ent) : List Ent := l.filter (holdE lo hi op)
def inE (lo hi : ByteArray) (op : Bool) (l : List Ent) : Int := if mChk l ≠ 0 then mChk l else rngCheck lo hi op
def inR (lo hi : ByteArray) (op : Bool) (l : List Ent) : List Ent := if inE lo hi op l = 0 then inF lo hi op l else []
theorem inF_snoc (lo hi : ByteArray) (op : Bool) (l : List Ent) (e : Ent) : inF lo hi op (l ++ [e]) = if holdE lo hi op e = true then inF lo hi op l ++ [e] else inF lo hi op l := by
  unfold inF
  rw [List.filter_append]
  cases h : holdE lo hi op e <;> simp [h]
theorem inF_len (lo hi : ByteArray) (op : Bool) (l : List Ent) : (inF lo hi op l).length ≤ l.length := List.length_filter_le _ _
/-- What In has laid, and where it stands. -/
structure InAt (w W : World) (lo hi : ByteArray) (op : Bool) (v : Value) (l : List Ent) : Prop where
  x : Ext w W
  c0 : W.cell? ⟨w.heap.size, 0, none⟩ = some (.string lo)
  c1 : W.cell? ⟨w.heap.size, 1, none⟩ = some (.string hi)
  c2 : W.cell? ⟨w.heap.size, 2, none⟩ = some (.bool op)
  o : OwEn W (w.heap.size + 1) v l
theorem InAt.ext {w W W' : World} {lo hi : ByteArray} {op : Bool} {v : Value} {l : List Ent} (h : InAt w W lo hi op v l) (hx : Ext W W') : InAt w W' lo hi op v l := ⟨Ext.trans _ _ _ h.x hx, cell_ext hx h.c0, cell_ext hx h.c1, cell_ext hx h.c2, h.o.ext hx⟩
theorem InAt.app {w W Z : World} {lo hi : ByteArray} {op : Bool} {v v' : Value} {l l' : List Ent} (h : InAt w W lo hi op v l) (hg : W.grownBy Z v.ownBlock) (ho : OwEn Z (w.heap.size + 1) v' l') : InAt w Z lo hi op v' l' := by
  have hx : Ext w Z := ext_grown h.x hg h.o (by omega)
  have hk : ∀ o u, W.cell? ⟨w.heap.size, o, none⟩ = some u → Z.cell? ⟨w.heap.size, o, none⟩ = some u := fun o u hu => by
    have hne : some w.heap.size ≠ v.ownBlock := fun e => by
      have := (World.ownsRow.lt h.o _ e.symm).1
      omega
    unfold World.cell? at hu ⊢
    rw [hg.block _ (cell_lt (o := o) (by unfold World.cell?; exact hu)) (fun e => hne e)]
    exact hu
  exact ⟨hx, hk _ _ h.c0, hk _ _ h.c1, hk _ _ h.c2, ho⟩
theorem entSl_one {W : World} {B : Nat} {x : Ent} (h : EntAt W B 0 x) : EntSl W (.slice (some ⟨B, 0, none⟩) 1 1) [x] := ⟨_, 1, rfl, Nat.le_refl _, by simp, fun _ => ⟨_, 0, rfl, fun i hi => by
  obtain rfl : i = 0 := by simpa using hi
  exact h⟩⟩
theorem mIn_any {w : World} (lo hi : ByteArray) (op : Bool) (l : List Ent) (v : Value) (hs : EntSl w v l) (hl : l.length ≤ 300000000) :
    Calls Tryd.prog 11 #[v, rngV lo hi op] w fun e w' => ∃ v, e = .returned (.tuple #[v, .int .i64 (inE lo hi op l)]) ∧ OwEn w' w.heap.size v (inR lo hi op l) ∧ Ext w w' := by
  have HS := hid_mk hs
  obtain ⟨a, c, rfl, hlc, hc63, hcells⟩ := hs
  have HC := hid_mk hcells
  clear hcells
  obtain ⟨z, hz⟩ : ∃ z, mChk l = z := ⟨_, rfl⟩
  have HZ := hid_mk hz
  obtain ⟨u, hu⟩ : ∃ u, rngCheck lo hi op = u := ⟨_, rfl⟩
  have HU := hid_mk hu
  obtain ⟨E, hE⟩ : ∃ E, inE lo hi op l = E := ⟨_, rfl⟩
  obtain ⟨R, hR⟩ : ∃ R, inR lo hi op l = R := ⟨_, rfl⟩
  have HE := hid_mk (show (if z ≠ 0 then z else u) = E by rw [← hE, inE, hz, hu])
  have HR := hid_mk (show (if E = 0 then inF lo hi op l else []) = R by rw [← hR, inR, hE])
  rw [hE, hR]
  clear hz hu hE hR
  go_enter Tryd.func11, Tryd.ntmps11
  go_wp2_with fail
  refine gen_callsK (fun W => InAt w W lo hi op (.slice none 0 0) []) ⟨by (repeat (first | exact Ext.refl _ | apply Ext.drew_left | apply Ext.drew | apply Ext.alloc)), by go_simp, by go_simp, by go_simp, ownE_nil _ _⟩ ?_
  intro W0 h0
  have HA0 := hid_mk h0
  clear h0
  refine (mCheck_any l _ W0 (HS.out.ext HA0.out.x)).mono ?_
  rintro e W1 ⟨rfl, hx⟩
  rw [HZ.out]
  have HA1 := hid_mk (HA0.out.ext hx)
  clear hx HA0
  by_cases hz0 : z = 0
  rotate_left
  · have hb : (z == 0) = false := by rw [beq_eq_false_iff_ne]; exact hz0
    obtain rfl : z = E := by rw [← HE.out, if_pos hz0]
    have HR' := hid_mk (show R = [] by rw [← HR.out, if_neg hz0])
    go_wp2
    refine bodyPost_ret (v := .tuple #[.slice none 0 0, .int .i64 z]) (by unfold results; rw [Tryd.results11]; go_simp; first | done | rfl) rfl ⟨_, rfl, by rw [HR'.out]; exact ownE_nil _ _, HA1.out.x⟩
  subst hz0
  rw [if_neg (by simp)] at HE
  have c0 := HA1.out.c0
  have c1 := HA1.out.c1
  have c2 := HA1.out.c2
  have rl := cell_lt c0
  go_wp2_with fail
  refine (sCheck_any lo hi op W1).mono ?_
  rintro e W2 ⟨rfl, hx⟩
  rw [HU.out]
  have HA2 := hid_mk (HA1.out.ext hx)
  clear hx HA1 c0 c1 c2 rl
  by_cases hu0 : u = 0
  rotate_left
  · have hb : (u == 0) = false := by rw [beq_eq_false_iff_ne]; exact hu0
    obtain rfl : u = E := HE.out
    have HR' := hid_mk (show R = [] by rw [← HR.out, if_neg hu0])
    go_wp2
    refine bodyPost_ret (v := .tuple #[.slice none 0 0, .int .i64 u]) (by unfold results; rw [Tryd.results11]; go_simp; first | done | rfl) rfl ⟨_, rfl, by rw [HR'.out]; exact ownE_nil _ _, HA2.out.x⟩
  subst hu0
  obtain rfl : 0 = E := HE.out
  rw [if_pos rfl] at HR
  go_wp2_with fail
  go_loopw [8, 23] (fun v i wr => ∃ k : Nat, k ≤ l.length ∧ i = .int .i64 (k : Int) ∧ InAt w wr lo hi op v (inF lo hi op (l.take k))) (fun _ i _ => l.length - (intOf i).toNat)
  case atStart => exact ⟨0, Nat.zero_le _, rfl, HA2.out⟩
  case round =>
    clear HA2
    obtain ⟨k, hk, rfl, ha⟩ := hrel
    have HA := hid_mk ha
    clear ha
    by_cases hlt : k < l.length
    · skip
      obtain ⟨b, o, rfl, hcl⟩ := HC.out (by omega)
      obtain ⟨a0, a1, a2, a3, a4⟩ := (hcl k hlt).ext HA.out.x
      have hbl := cell_lt a0
      have HT := hid_mk (show inF lo hi op (l.take (k + 1)) = if holdE lo hi op l[k] = true then inF lo hi op (l.take k) ++ [l[k]] else inF lo hi op (l.take k) by rw [List.take_succ_eq_append_getElem hlt, inF_snoc])
      obtain ⟨y, hy⟩ : ∃ y, l[k] = y := ⟨_, rfl⟩
      rw [hy] at a0 a1 a2 a3 a4 HT
      obtain ⟨h, hh⟩ : ∃ h, holdE lo hi op y = h := ⟨_, rfl⟩
      have HH := hid_mk hh
      have hk1 : (k : Int) < (l.length : Int) := by omega
      have hk0 : (0 : Int) ≤ (k : Int) := by omega
      have HW := hid_mk (show wrap64 ((k : Int) + 1) = (k : Int) + 1 from w64in (by omega))
      have HLM := hid_mk (inF_len lo hi op (l.take k))
      rw [List.length_take] at HLM
      clear hcl hy hh
      have c0 := HA.out.c0
      have c1 := HA.out.c1
      have c2 := HA.out.c2
      have rl := cell_lt c0
      go_wp2_with fail
      refine gen_callsK (fun W => InAt w W lo hi op u8 (inF lo hi op (l.take k)) ∧ EntAt W wr.heap.size 0 y) ⟨HA.out.ext (by (repeat (first | exact Ext.refl _ | apply Ext.drew_left | apply Ext.drew | apply Ext.alloc))), ⟨by go_simp, by go_simp, by go_simp, by go_simp, by go_simp⟩⟩ ?_
      rintro W3 ⟨h3, he⟩
      clear a0 a1 a2 a3 a4 hbl HA c0 c1 c2 rl
      refine (sHolds_any lo hi op y.key W3).mono ?_
      rintro e W4 ⟨rfl, hx⟩
      rw [show rngHolds lo hi op y.key = h from HH.out]
      have HA := hid_mk (h3.ext hx)
      obtain ⟨a0, a1, a2, a3, a4⟩ := he.ext hx
      have hbl := cell_lt a0
      clear h3 he hx
      cases h with
      | true =>
        obtain ⟨v', w', hrun, ho, hg, hob⟩ := appendE (w := W4.alloc (.cells #[.string y.key, .int .i64 y.ctr, .int .i64 y.node, .string y.val, .bool y.dead] 55)) (lv := .slice (some ⟨W4.heap.size, 0, none⟩) 1 1) (L := [y]) (HA.out.ext (by (repeat (first | exact Ext.refl _ | apply Ext.drew_left | apply Ext.drew | apply Ext.alloc)))).o (entSl_one ⟨by go_simp, by go_simp, by go_simp, by go_simp, by go_simp⟩) (by have := HLM.out; simp; omega) (by have := cell_lt HA.out.c0; simp; omega)
        have HB := hid_mk (show InAt w w' lo hi op v' (inF lo hi op (l.take (k + 1))) by rw [HT.out, if_pos HH.out]; exact (HA.out.ext (by (repeat (first | exact Ext.refl _ | apply Ext.drew_left | apply Ext.drew | apply Ext.alloc)))).app hg ho)
        clear ho hg hob
        go_wp2
        go_roundw
        case rel => exact ⟨k + 1, hlt, (by first | exact congrArg (Value.int .i64) HW.out | rfl), HB.out⟩
        case measure => (try simp only [HW.out]); simp [intOf]; omega
      | false =>
        go_wp2
        go_roundw
        case rel => exact ⟨k + 1, hlt, (by first | exact congrArg (Value.int .i64) HW.out | rfl), by rw [HT.out, if_neg (by rw [HH.out]; simp)]; exact HA.out⟩
        case measure => (try simp only [HW.out]); simp [intOf]; omega
    · obtain rfl : k = l.length := by omega
      have hmm : ¬ ((l.length : Nat) : Int) < (l.length : Int) := by omega
      rw [List.take_length] at HA
      go_wp2
      refine bodyPost_ret (v := .tuple #[u8, .int .i64 0]) (by unfold results; rw [Tryd.results11]; go_simp; first | done | rfl) rfl ⟨_, rfl, by rw [← HR.out]; exact HA.out.o.lower (by omega), HA.out.x⟩
end Go.Proofs.YtiimoaplhhnklaaDoor
namespace Go.Proofs.YtiimoaplhhnklaaDoor
open Go.RowKit Go.Lib
set_option maxHeartbeats 4000000
set_option maxRecDepth 100000
set_option linter.unusedSimpArgs false
set_option linter.unusedVariables false
attribute [-go_sem] Builtin.append_
theorem r9In_any {w : World} (lo hi : ByteArray) (op : Bool) (l : List Ent) (v : Value) (hs : EntSl w v l) (hl : l.length ≤ 300000000) :
    Calls Tryd.prog 54 #[v, rngV lo hi op] w fun e w' => ∃ v, e = .returned (.tuple #[v, .int .i64 (inE lo hi op l)]) ∧ OwEn w' w.heap.size v (inR lo hi op l) ∧ Ext w w' := by
  have HS := hid_mk hs
  obtain ⟨a, c, rfl, hlc, hc63, hcells⟩ := hs
  have HC := hid_mk hcells
  clear hcells
  obtain ⟨z, hz⟩ : ∃ z, mChk l = z := ⟨_, rfl⟩
  have HZ := hid_mk hz
  obtain ⟨u, hu⟩ : ∃ u, rngCheck lo hi op = u := ⟨_, rfl⟩
  have HU := hid_mk hu
  obtain ⟨E, hE⟩ : ∃ E, inE lo hi op l = E := ⟨_, rfl⟩
  obtain ⟨R, hR⟩ : ∃ R, inR lo hi op l = R := ⟨_, rfl⟩
  have HE := hid_mk (show (if z ≠ 0 then z else u) = E by rw [← hE, inE, hz, hu])
  have HR := hid_mk (show (if E = 0 then inF lo hi op l else []) = R by rw [← hR, inR, hE])
  rw [hE, hR]
  clear hz hu hE hR
  go_enter Tryd.func54, Tryd.ntmps54
  go_wp2_with fail
  refine gen_callsK (fun W => InAt w W lo hi op (.slice none 0 0) []) ⟨by (repeat (first | exact Ext.refl _ | apply Ext.drew_left | apply Ext.drew | apply Ext.alloc)), by go_simp, by go_simp, by go_simp, ownE_nil _ _⟩ ?_
  intro W0 h0
  have HA0 := hid_mk h0
  clear h0
  refine (r9Check_any l _ W0 (HS.out.ext HA0.out.x)).mono ?_
  rintro e W1 ⟨rfl, hx⟩
  rw [HZ.out]
  have HA1 := hid_mk (HA0.out.ext hx)
  clear hx HA0
  by_cases hz0 : z = 0
  rotate_left
  · have hb : (z == 0) = false := by rw [beq_eq_false_iff_ne]; exact hz0
    rw [if_pos hz0] at HE
    obtain rfl : z = E := HE.out
    have HR' := hid_mk (show R = [] by rw [← HR.out, if_neg hz0])
    go_wp2
    refine bodyPost_ret (v := .tuple #[.slice none 0 0, .int .i64 z]) (by unfold results; rw [Tryd.results54]; go_simp; first | done | rfl) rfl ⟨_, rfl, by rw [HR'.out]; exact ownE_nil _ _, HA1.out.x⟩
  subst hz0
  rw [if_neg (by simp)] at HE
  have c0 := HA1.out.c0
  have c1 := HA1.out.c1
  have c2 := HA1.out.c2
  have rl := cell_lt c0
  go_wp2_with fail
  refine (r2Check_any lo hi op W1).mono ?_
  rintro e W2 ⟨rfl, hx⟩
  rw [HU.out]
  have HA2 := hid_mk (HA1.out.ext hx)
  clear hx HA1 c0 c1 c2 rl
  by_cases hu0 : u = 0
  rotate_left
  · have hb : (u == 0) = false := by rw [beq_eq_false_iff_ne]; exact hu0
    obtain rfl : u = E := HE.out
    have HR' := hid_mk (show R = [] by rw [← HR.out, if_neg hu0])
    go_wp2
    refine bodyPost_ret (v := .tuple #[.slice none 0 0, .int .i64 u]) (by unfold results; rw [Tryd.results54]; go_simp; first | done | rfl) rfl ⟨_, rfl, by rw [HR'.out]; exact ownE_nil _ _, HA2.out.x⟩
  subst hu0
  obtain rfl : 0 = E := HE.out
  rw [if_pos rfl] at HR
  have hl2 := cell_lt HA2.out.c0
  go_wp2_with fail
  go_loopw [7, 8] (fun v i wr => ∃ k : Nat, k ≤ l.length ∧ i = .int .i64 (k : Int) ∧ InAt w wr lo hi op v (inF lo hi op (l.take k))) (fun _ i _ => l.length - (intOf i).toNat)
  case atStart =>
    have h := HA2.out.ext (show Ext W2 (W2.alloc (.cells #[] 55)) by (repeat (first | exact Ext.refl _ | apply Ext.drew_left | apply Ext.drew | apply Ext.alloc)))
    exact ⟨0, Nat.zero_le _, rfl, h.x, h.c0, h.c1, h.c2, ownE_empty (heap_alloc_new W2 (.cells #[] 55)) (by omega)⟩
  case round =>
    clear HA2
    obtain ⟨k, hk, rfl, ha⟩ := hrel
    have HA := hid_mk ha
    clear ha
    by_cases hlt : k < l.length
    · skip
      obtain ⟨b, o, rfl, hcl⟩ := HC.out (by omega)
      obtain ⟨a0, a1, a2, a3, a4⟩ := (hcl k hlt).ext HA.out.x
      have hbl := cell_lt a0
      have HT := hid_mk (show inF lo hi op (l.take (k + 1)) = if holdE lo hi op l[k] = true then inF lo hi op (l.take k) ++ [l[k]] else inF lo hi op (l.take k) by rw [List.take_succ_eq_append_getElem hlt, inF_snoc])
      obtain ⟨y, hy⟩ : ∃ y, l[k] = y := ⟨_, rfl⟩
      rw [hy] at a0 a1 a2 a3 a4 HT
      obtain ⟨h, hh⟩ : ∃ h, holdE lo hi op y = h := ⟨_, rfl⟩
      have HH := hid_mk hh
      have hk1 : (k : Int) < (l.length : Int) := by omega
      have hk0 : (0 : Int) ≤ (k : Int) := by omega
      have HW := hid_mk (show wrap64 ((k : Int) + 1) = (k : Int) + 1 from w64in (by omega))
      have HLM := hid_mk (inF_len lo hi op (l.take k))
      rw [List.length_take] at HLM
      clear hcl hy hh
      have c0 := HA.out.c0
      have c1 := HA.out.c1
      have c2 := HA.out.c2
      have rl := cell_lt c0
      go_wp2_with fail
      have hx5 := Ext.refl wr
      have hc5 := hx5.hc; have hl5 := hx5.hl; have he5 := hx5.hle; have hn5 := hx5.hne; replace hx5 := hid_mk hx5
      refine wp_region_held_below (fun _ => true) (.quiet 0 (.quiet 1 (.quiet 2 (.quiet 3 (.quiet 4 (.quiet 5 (.alt 6 .done .stop))))))) (by kernel_rfl) (by kernel_rfl) (by intro c a w d v h; cases d <;> exact h) (fun ops HO => ?_)
      refine plan_read _ (hi_of HO rfl) rfl (fun w' hE => by have hcE := (Ext.trans _ _ _ (by (repeat (first | exact hx5.out | apply Ext.drew | apply Ext.alloc))) hE).hc; (repeat (with_reducible replace hE := Ext.unD hE)); have hcF := hE.hc; clear hE; go_simp; rfl) ?_
      simp only [Act.put, List.setIfInBounds_toArray, List.set_cons_succ, List.set_cons_zero]
      refine plan_read _ (hi_of HO rfl) rfl (fun w' hE => by have hcE := (Ext.trans _ _ _ (by (repeat (first | exact hx5.out | apply Ext.drew | apply Ext.alloc))) hE).hc; (repeat (with_reducible replace hE := Ext.unD hE)); have hcF := hE.hc; clear hE; go_simp; rfl) ?_
      simp only [Act.put, List.setIfInBounds_toArray, List.set_cons_succ, List.set_cons_zero]
      refine plan_read _ (hi_of HO rfl) rfl (fun w' hE => by have hcE := (Ext.trans _ _ _ (by (repeat (first | exact hx5.out | apply Ext.drew | apply Ext.alloc))) hE).hc; (repeat (with_reducible replace hE := Ext.unD hE)); have hcF := hE.hc; clear hE; go_simp; rfl) ?_
      simp only [Act.put, List.setIfInBounds_toArray, List.set_cons_succ, List.set_cons_zero]
      refine plan_read _ (hi_of HO rfl) rfl (fun w' hE => by have hcE := (Ext.trans _ _ _ (by (repeat (first | exact hx5.out | apply Ext.drew | apply Ext.alloc))) hE).hc; (repeat (with_reducible replace hE := Ext.unD hE)); have hcF := hE.hc; clear hE; go_simp; rfl) ?_
      simp only [Act.put, List.setIfInBounds_toArray, List.set_cons_succ, List.set_cons_zero]
      refine plan_read _ (hi_of HO rfl) rfl (fun w' hE => by have hcE := (Ext.trans _ _ _ (by (repeat (first | exact hx5.out | apply Ext.drew | apply Ext.alloc))) hE).hc; (repeat (with_reducible replace hE := Ext.unD hE)); have hcF := hE.hc; clear hE; go_simp; rfl) ?_
      simp only [Act.put, List.setIfInBounds_toArray, List.set_cons_succ, List.set_cons_zero]
      refine plan_read _ (hi_of HO rfl) rfl (fun w' hE => by have hcE := (Ext.trans _ _ _ (by (repeat (first | exact hx5.out | apply Ext.drew | apply Ext.alloc))) hE).hc; (repeat (with_reducible replace hE := Ext.unD hE)); have hcF := hE.hc; clear hE; go_simp; rfl) ?_
      simp only [Act.put, List.setIfInBounds_toArray, List.set_cons_succ, List.set_cons_zero]
      refine plan_call1 en_r2Holds (hi_of HO rfl) rfl rfl (by go_simp; rfl) (by exact (r2Holds_any lo hi op y.key _)) ?_
      rintro e v101 ⟨rfl, hx101⟩
      refine ⟨_, rfl, fun _ => hx101, ?_⟩
      have hy101 := hid_mk (by first | (with_reducible exact Ext.unD hx101) | exact hx101 : Ext _ v101)
      replace hx101 := Ext.trans _ _ _ (by (repeat (first | exact hx5.out | apply Ext.drew | apply Ext.alloc))) hx101
      clear hc5 hl5 he5 hn5
      have hc101 := hx101.hc; have hl101 := hx101.hl; have he101 := hx101.hle; have hn101 := hx101.hne; replace hx101 := hid_mk hx101
      simp only [Act.put, List.setIfInBounds_toArray, List.set_cons_succ, List.set_cons_zero]
      replace HA := hid_mk (HA.out.ext hy101.out)
      replace a0 := cell_ext hy101.out a0
      replace a1 := cell_ext hy101.out a1
      replace a2 := cell_ext hy101.out a2
      replace a3 := cell_ext hy101.out a3
      replace a4 := cell_ext hy101.out a4
      replace hbl := cell_lt a0
      refine plan_done ?fin102
      rw [show rngHolds lo hi op y.key = h from HH.out]
      cases h with
      | true =>
        obtain ⟨v', w', hrun, ho, hg, hob⟩ := appendE (w := v101.alloc (.cells #[.string y.key, .int .i64 y.ctr, .int .i64 y.node, .string y.val, .bool y.dead] 55)) (lv := .slice (some ⟨v101.heap.size, 0, none⟩) 1 1) (L := [y]) (HA.out.ext (by (repeat (first | exact Ext.refl _ | apply Ext.drew_left | apply Ext.drew | apply Ext.alloc)))).o (entSl_one ⟨by go_simp, by go_simp, by go_simp, by go_simp, by go_simp⟩) (by have := HLM.out; simp; omega) (by have := cell_lt HA.out.c0; simp; omega)
        have HB := hid_mk (show InAt w w' lo hi op v' (inF lo hi op (l.take (k + 1))) by rw [HT.out, if_pos HH.out]; exact (HA.out.ext (by (repeat (first | exact Ext.refl _ | apply Ext.drew_left | apply Ext.drew | apply Ext.alloc)))).app hg ho)
        clear ho hg hob
        go_wp2
        go_roundw
        case rel => exact ⟨k + 1, hlt, (by first | exact congrArg (Value.int .i64) HW.out | rfl), HB.out⟩
        case measure => (try simp only [HW.out]); simp [intOf]; omega
      | false =>
        go_wp2
        go_roundw
        case rel => exact ⟨k + 1, hlt, (by first | exact congrArg (Value.int .i64) HW.out | rfl), by rw [HT.out, if_neg (by rw [HH.out]; simp)]; exact HA.out⟩
        case measure => (try simp only [HW.out]); simp [intOf]; omega
    · obtain rfl : k = l.length := by omega
      have hmm : ¬ ((l.length : Nat) : Int) < (l.length : Int) := by omega
      rw [List.take_length] at HA
      go_wp2
      refine bodyPost_ret (v := .tuple #[u7, .int .i64 0]) (by unfold results; rw [Tryd.results54]; go_simp; first | done | rfl) rfl ⟨_, rfl, by rw [← HR.out]; exact HA.out.o.lower (by omega), HA.out.x⟩
theorem rIn_any {w : World} (lo hi : ByteArray) (op : Bool) (l : List Ent) (v : Value) (hs : EntSl w v l) (hl : l.length ≤ 300000000) :
    Calls Tryd.prog 40 #[v, rngV lo hi op] w fun e w' => ∃ v, e = .returned v ∧ OwEn w' w.heap.size v (inR lo hi op l) ∧ Ext w w' := by
  have HS := hid_mk hs
  obtain ⟨a, c, rfl, -⟩ := hs
  obtain ⟨R, hR⟩ : ∃ R, inR lo hi op l = R := ⟨_, rfl⟩
  have HR := hid_mk hR
  rw [hR]
  clear hR
  go_enter Tryd.func40, Tryd.ntmps40
  go_wp2_with fail
  refine gen_callsK (fun W => Ext w W ∧ w.heap.size ≤ W.heap.size) ⟨by (repeat (first | exact Ext.refl _ | apply Ext.drew_left | apply Ext.drew | apply Ext.alloc)), by simp⟩ ?_
  rintro W ⟨hx, hlw⟩
  have HX := hid_mk hx
  refine (r9In_any lo hi op l _ (HS.out.ext hx) hl).mono ?_
  rintro e W2 ⟨v, rfl, ho, hx2⟩
  rw [HR.out] at ho
  have HO := hid_mk (ho.lower hlw)
  have HX2 := hid_mk (Ext.trans _ _ _ hx hx2)
  obtain ⟨va, vc, rfl⟩ := own_form ho
  clear hx hx2 ho hlw
  go_wp2
  go_ret
  exact ⟨_, rfl, HO.out, HX2.out⟩
def keysL (l : List Ent) : List ByteArray := l.map Ent.key
theorem rKeys_any {w : World} (l : List Ent) (v : Value) (hs : EntSl w v l) (hl : l.length ≤ 300000000) :
    Calls Tryd.prog 44 #[v] w fun e w' => ∃ v, e = .returned v ∧ OwS w' w.heap.size v (keysL l) ∧ Ext w w' := by
  obtain ⟨a, c, rfl, hlc, hc63, hcells⟩ := hs
  have HC := hid_mk hcells
  clear hcells
  go_enter Tryd.func44, Tryd.ntmps44
  go_wp2_with fail
  go_loopw [3, 4] (fun v i wr => ∃ k : Nat, k ≤ l.length ∧ i = .int .i64 (k : Int) ∧ Ext w wr ∧ OwS wr w.heap.size v (keysL (l.take k))) (fun _ i _ => l.length - (intOf i).toNat)
  case atStart => exact ⟨0, Nat.zero_le _, rfl, by (repeat (first | exact Ext.refl _ | apply Ext.drew_left | apply Ext.drew | apply Ext.alloc)), ownS_empty (heap_alloc_new w (.cells #[] 9)) (Nat.le_refl _)⟩
  case round =>
    obtain ⟨k, hk, rfl, hx, ho⟩ := hrel
    have HX := hid_mk hx
    have HO := hid_mk ho
    clear hx ho
    by_cases hlt : k < l.length
    · obtain ⟨b, o, rfl, hcl⟩ := HC.out (by omega)
      obtain ⟨a0, -, -, -, -⟩ := (hcl k hlt).ext HX.out
      have hbl := cell_lt a0
      have HT := hid_mk (show keysL (l.take (k + 1)) = keysL (l.take k) ++ [l[k].key] by rw [List.take_succ_eq_append_getElem hlt, keysL, List.map_append]; rfl)
      have HTL := hid_mk (show (keysL (l.take k)).length = k by rw [keysL, List.length_map, List.length_take]; omega)
      obtain ⟨y, hy⟩ : ∃ y, l[k].key = y := ⟨_, rfl⟩
      rw [hy] at a0 HT
      have hk1 : (k : Int) < (l.length : Int) := by omega
      have hk0 : (0 : Int) ≤ (k : Int) := by omega
      have HW := hid_mk (show wrap64 ((k : Int) + 1) = (k : Int) + 1 from w64in (by omega))
      have hx1 : Ext wr (wr.alloc (.cells #[.string y] 9)) := by (repeat (first | exact Ext.refl _ | apply Ext.drew_left | apply Ext.drew | apply Ext.alloc))
      obtain ⟨v', w', hrun, ho, hg, hob⟩ := appendS (w := wr.alloc (.cells #[.string y] 9)) (HO.out.ext hx1) (heap_alloc_new wr _) (by rw [HTL.out]; omega) (by have := HX.out.below.size; simp; omega)
      have HB := hid_mk (show Ext w w' ∧ OwS w' w.heap.size v' (keysL (l.take (k + 1))) by rw [HT.out]; exact ⟨ext_grown (Ext.trans _ _ _ HX.out hx1) hg (HO.out.ext hx1) (Nat.le_refl _), ho⟩)
      clear hcl hy ho hg hob hx1
      go_wp2
      go_roundw
      case rel => exact ⟨k + 1, hlt, (by first | exact congrArg (Value.int .i64) HW.out | rfl), HB.out.1, HB.out.2⟩
      case measure => (try simp only [HW.out]); simp [intOf]; omega
    · obtain rfl : k = l.length := by omega
      have hmm : ¬ ((l.length : Nat) : Int) < (l.length : Int) := by omega
      rw [List.take_length] at HO
      go_wp2
      go_ret
      exact ⟨_, rfl, HO.out, HX.out⟩
end Go.Proofs.YtiimoaplhhnklaaDoor
namespace Go.Proofs.YtiimoaplhhnklaaDoor
open Go.RowKit Go.Lib
set_option maxHeartbeats 4000000
set_option maxRecDepth 100000
set_option linter.unusedSimpArgs false
set_option linter.unusedVariables false
attribute [-go_sem] Builtin.append_

def cI (z : Int) : List Value := [.int .i64 z]
def cK (k : ByteArray) : List Value := [.string k]
theorem okI : TyOk Tryd.prog 101 3 1 cI where
  ht := Tryd.underlying101
  hk := by omega
  hf := fun _ => rfl
  h1 := fun a u hu => by simp [cI] at hu; subst hu; rfl
  info := ⟨_, _, rfl, rfl, by decide, rfl, rfl⟩
  zero := fun w base n cap h x c => by cases base <;> cases x <;> (unfold Builtin.append_; go_simp)
theorem okK : TyOk Tryd.prog 33 9 1 cK where
  ht := Tryd.underlying33
  hk := by omega
  hf := fun _ => rfl
  h1 := fun a u hu => by simp [cK] at hu; subst hu; rfl
  info := ⟨_, _, rfl, rfl, by decide, rfl, rfl⟩
  zero := fun w base n cap h x c => by cases base <;> cases x <;> (unfold Builtin.append_; go_simp)
theorem flat_cK (l : List ByteArray) : l.flatMap cK = l.map Value.string := by
  induction l with
  | nil => rfl
  | cons a l ih => rw [List.flatMap_cons, ih]; rfl
theorem OwS.g {w : World} {B : Nat} {v : Value} {l : List ByteArray} (h : OwS w B v l) : OwG 9 1 cK w B v l := by unfold OwG; rw [flat_cK]; exact h
theorem OwS.gsl {w : World} {B : Nat} {v : Value} {l : List ByteArray} (h : OwS w B v l) : GSl cK 1 w v l := h.g.sl Nat.one_pos (fun _ => rfl)
/-- Keys that may be, and rise. -/
structure KeysOk (ks : List ByteArray) : Prop where
  z : ∀ k ∈ ks, (k.size : Int) ≤ 16
  r : ∀ i, (h : i + 1 < ks.length) → Op.bytesLess ks[i].toList ks[i + 1].toList = true
  n : ks.length ≤ 256
theorem gsl_cK {w wr : World} {a : Option Addr} {ks : List ByteArray} (h : 0 < ks.length → ∃ b o, a = some ⟨b, o, none⟩ ∧ ∀ i, (h : i < ks.length) → ∀ j, j < 1 → w.cell? ⟨b, o + i * 1 + j, none⟩ = (cK ks[i])[j]?) (hp : 0 < ks.length) (hx : Ext w wr) :
    ∃ b o, a = some ⟨b, o, none⟩ ∧ ∀ i, (h : i < ks.length) → wr.cell? ⟨b, o + i, none⟩ = some (.string ks[i]) := by
  obtain ⟨b, o, e, hc⟩ := h hp
  refine ⟨b, o, e, fun i hi => ?_⟩
  have h1 := hc i hi 0 (by omega)
  rw [Nat.mul_one, Nat.add_zero] at h1
  exact cell_ext hx h1
theorem cCheck_any {w : World} (ks : List ByteArray) (v : Value) (hs : GSl cK 1 w v ks) (hk : KeysOk ks) :
    Calls Tryd.prog 65 #[v] w fun e w' => e = .returned (.int .i64 0) ∧ Ext w w' := by
  obtain ⟨a, c, rfl, hlc, hcells⟩ := hs
  have HC := hid_mk (fun (wr : World) hp hx => gsl_cK (wr := wr) hcells hp hx)
  have HK := hid_mk hk
  have hn := hk.n
  clear hcells hk
  go_enter Tryd.func65, Tryd.ntmps65
  go_wp2
  go_loopw [8] (fun i wr => ∃ k : Nat, k ≤ ks.length ∧ i = .int .i64 (k : Int) ∧ Ext w wr) (fun i _ => ks.length - (intOf i).toNat)
  case atStart => exact ⟨0, Nat.zero_le _, rfl, Ext.refl _⟩
  case round =>
    obtain ⟨k, hkl, rfl, hx⟩ := hrel
    have HX := hid_mk hx
    clear hx
    by_cases hlt : k < ks.length
    · obtain ⟨b, o, rfl, hcl⟩ := HC.out wr (by omega) HX.out
      have a0 := hcl k hlt
      have hbl := cell_lt a0
      have hz := HK.out.z ks[k] (List.getElem_mem hlt)
      obtain ⟨y, hy⟩ : ∃ y, ks[k] = y := ⟨_, rfl⟩
      rw [hy] at a0 hz
      have hz' : ¬ (16 : Int) < (y.size : Int) := by omega
      have hk1 : (k : Int) < (ks.length : Int) := by omega
      have hk0 : (0 : Int) ≤ (k : Int) := by omega
      have HW := hid_mk (show wrap64 ((k : Int) + 1) = (k : Int) + 1 from w64in (by omega))
      clear hcl hy
      go_wp2
      go_roundw
      case rel => exact ⟨k + 1, hlt, (by first | exact congrArg (Value.int .i64) HW.out | rfl), HX.out⟩
      case measure => (try simp only [HW.out]); simp [intOf]; omega
    · obtain rfl : k = ks.length := by omega
      have hmm : ¬ ((ks.length : Nat) : Int) < (ks.length : Int) := by omega
      go_wp2_with fail
      go_loopw [18] (fun i wr2 => ∃ k : Nat, k ≤ ks.length ∧ i = .int .i64 (k : Int) ∧ Ext wr wr2) (fun i _ => ks.length - (intOf i).toNat)
      case atStart => exact ⟨0, Nat.zero_le _, rfl, Ext.refl _⟩
      case round =>
        obtain ⟨k, hkl, rfl, hx⟩ := hrel
        have HX2 := hid_mk hx
        clear hx
        by_cases hlt2 : k < ks.length
        · obtain ⟨b, o, rfl, hcl⟩ := HC.out wr (by omega) (Ext.trans _ _ _ HX.out HX2.out)
          have hk1 : (k : Int) < (ks.length : Int) := by omega
          have HW := hid_mk (show wrap64 ((k : Int) + 1) = (k : Int) + 1 from w64in (by omega))
          rcases k with _ | m
          · go_wp2
            go_region
            go_wp2
            go_roundw
            case rel => exact ⟨1, by omega, rfl, (HX2.out).drew⟩
            case measure => simp [intOf]; omega
          · have a0 := hcl (m + 1) hlt2
            have b0 := hcl m (by omega)
            have hbl := cell_lt a0
            have hr := HK.out.r m hlt2
            obtain ⟨y, hy⟩ : ∃ y, ks[m + 1] = y := ⟨_, rfl⟩
            obtain ⟨x, hxx⟩ : ∃ x, ks[m] = x := ⟨_, rfl⟩
            rw [hy] at a0 hr
            rw [hxx] at b0 hr
            clear hcl hy hxx
            have hm0 : (0 : Int) < (m : Int) + 1 := by omega
            have hm1 : (m : Int) < (ks.length : Int) := by omega
            have hlt4 : IntKind.i64.wrap (m : Int) = m := wrapN m (by omega)
            go_wp2_with fail
            have hx5 := Ext.refl wr
            have hc5 := hx5.hc; have hl5 := hx5.hl; have he5 := hx5.hle; have hn5 := hx5.hne; replace hx5 := hid_mk hx5
            refine wp_region_held_below (fun _ => true) (.quiet 0 (.quiet 1 (.quiet 2 (.quiet 3 (.quiet 4 (.quiet 5 (.quiet 6 (.quiet 7 (.quiet 8 (.quiet 9 (.quiet 10 (.quiet 11 (.quiet 12 (.quiet 13 .done)))))))))))))) (by kernel_rfl) (by kernel_rfl) (by intro c a w d v h; cases d <;> exact h) (fun ops HO => ?_)
            refine plan_read _ (hi_of HO rfl) rfl (fun w' hE => by have hcE := (Ext.trans _ _ _ (by (repeat (first | exact hx5.out | apply Ext.drew | apply Ext.alloc))) hE).hc; (repeat (with_reducible replace hE := Ext.unD hE)); have hcF := hE.hc; clear hE; go_simp; rfl) ?_
            simp only [Act.put, List.setIfInBounds_toArray, List.set_cons_succ, List.set_cons_zero]
            refine plan_read _ (hi_of HO rfl) rfl (fun w' hE => by have hcE := (Ext.trans _ _ _ (by (repeat (first | exact hx5.out | apply Ext.drew | apply Ext.alloc))) hE).hc; (repeat (with_reducible replace hE := Ext.unD hE)); have hcF := hE.hc; clear hE; go_simp; rfl) ?_
            simp only [Act.put, List.setIfInBounds_toArray, List.set_cons_succ, List.set_cons_zero]
            refine plan_read _ (hi_of HO rfl) rfl (fun w' hE => by have hcE := (Ext.trans _ _ _ (by (repeat (first | exact hx5.out | apply Ext.drew | apply Ext.alloc))) hE).hc; (repeat (with_reducible replace hE := Ext.unD hE)); have hcF := hE.hc; clear hE; go_simp; rfl) ?_
            simp only [Act.put, List.setIfInBounds_toArray, List.set_cons_succ, List.set_cons_zero]
            refine plan_read _ (hi_of HO rfl) (by rw [HO.out]; rfl) (fun w' hE => by have hcE := (Ext.trans _ _ _ (by (repeat (first | exact hx5.out | apply Ext.drew | apply Ext.alloc))) hE).hc; (repeat (with_reducible replace hE := Ext.unD hE)); have hcF := hE.hc; clear hE; go_simp; rfl) ?_
            simp only [Act.put, List.setIfInBounds_toArray, List.set_cons_succ, List.set_cons_zero]
            refine plan_read _ (hi_of HO rfl) (by rw [HO.out]; rfl) (fun w' hE => by have hcE := (Ext.trans _ _ _ (by (repeat (first | exact hx5.out | apply Ext.drew | apply Ext.alloc))) hE).hc; (repeat (with_reducible replace hE := Ext.unD hE)); have hcF := hE.hc; clear hE; go_simp; rfl) ?_
            simp only [Act.put, List.setIfInBounds_toArray, List.set_cons_succ, List.set_cons_zero]
            refine plan_read _ (hi_of HO rfl) (by rw [HO.out]; rfl) (fun w' hE => by have hcE := (Ext.trans _ _ _ (by (repeat (first | exact hx5.out | apply Ext.drew | apply Ext.alloc))) hE).hc; (repeat (with_reducible replace hE := Ext.unD hE)); have hcF := hE.hc; clear hE; go_simp; rfl) ?_
            simp only [Act.put, List.setIfInBounds_toArray, List.set_cons_succ, List.set_cons_zero]
            refine plan_read _ (hi_of HO rfl) (by rw [HO.out]; rfl) (fun w' hE => by have hcE := (Ext.trans _ _ _ (by (repeat (first | exact hx5.out | apply Ext.drew | apply Ext.alloc))) hE).hc; (repeat (with_reducible replace hE := Ext.unD hE)); have hcF := hE.hc; clear hE; go_simp; rfl) ?_
            simp only [Act.put, List.setIfInBounds_toArray, List.set_cons_succ, List.set_cons_zero]
            refine plan_read _ (hi_of HO rfl) (by rw [HO.out]; rfl) (fun w' hE => by have hcE := (Ext.trans _ _ _ (by (repeat (first | exact hx5.out | apply Ext.drew | apply Ext.alloc))) hE).hc; (repeat (with_reducible replace hE := Ext.unD hE)); have hcF := hE.hc; clear hE; go_simp; rfl) ?_
            simp only [Act.put, List.setIfInBounds_toArray, List.set_cons_succ, List.set_cons_zero]
            refine plan_read _ (hi_of HO rfl) (by rw [HO.out]; rfl) (fun w' hE => by have hcE := (Ext.trans _ _ _ (by (repeat (first | exact hx5.out | apply Ext.drew | apply Ext.alloc))) hE).hc; (repeat (with_reducible replace hE := Ext.unD hE)); have hcF := hE.hc; clear hE; go_simp; rfl) ?_
            simp only [Act.put, List.setIfInBounds_toArray, List.set_cons_succ, List.set_cons_zero]
            refine plan_read _ (hi_of HO rfl) (by rw [HO.out]; rfl) (fun w' hE => by have hcE := (Ext.trans _ _ _ (by (repeat (first | exact hx5.out | apply Ext.drew | apply Ext.alloc))) hE).hc; (repeat (with_reducible replace hE := Ext.unD hE)); have hcF := hE.hc; clear hE; go_simp; rfl) ?_
            simp only [Act.put, List.setIfInBounds_toArray, List.set_cons_succ, List.set_cons_zero]
            refine plan_read _ (hi_of HO rfl) (by rw [HO.out]; rfl) (fun w' hE => by have hcE := (Ext.trans _ _ _ (by (repeat (first | exact hx5.out | apply Ext.drew | apply Ext.alloc))) hE).hc; (repeat (with_reducible replace hE := Ext.unD hE)); have hcF := hE.hc; clear hE; go_simp; rfl) ?_
            simp only [Act.put, List.setIfInBounds_toArray, List.set_cons_succ, List.set_cons_zero]
            refine plan_read _ (hi_of HO rfl) (by rw [HO.out]; rfl) (fun w' hE => by have hcE := (Ext.trans _ _ _ (by (repeat (first | exact hx5.out | apply Ext.drew | apply Ext.alloc))) hE).hc; (repeat (with_reducible replace hE := Ext.unD hE)); have hcF := hE.hc; clear hE; go_simp; rfl) ?_
            simp only [Act.put, List.setIfInBounds_toArray, List.set_cons_succ, List.set_cons_zero]
            refine plan_read _ (hi_of HO rfl) (by rw [HO.out]; rfl) (fun w' hE => by have hcE := (Ext.trans _ _ _ (by (repeat (first | exact hx5.out | apply Ext.drew | apply Ext.alloc))) hE).hc; (repeat (with_reducible replace hE := Ext.unD hE)); have hcF := hE.hc; clear hE; go_simp; rfl) ?_
            simp only [Act.put, List.setIfInBounds_toArray, List.set_cons_succ, List.set_cons_zero]
            refine plan_read _ (hi_of HO rfl) rfl (fun w' hE => by have hcE := (Ext.trans _ _ _ (by (repeat (first | exact hx5.out | apply Ext.drew | apply Ext.alloc))) hE).hc; (repeat (with_reducible replace hE := Ext.unD hE)); have hcF := hE.hc; clear hE; go_simp; rfl) ?_
            simp only [Act.put, List.setIfInBounds_toArray, List.set_cons_succ, List.set_cons_zero]
            refine plan_done ?fin101
            go_wp2
            go_roundw
            case rel => exact ⟨m + 1 + 1, by omega, (by first | exact congrArg (Value.int .i64) HW.out | rfl), Ext.trans _ _ _ HX2.out (by (repeat (first | exact Ext.refl _ | apply Ext.drew_left | apply Ext.drew | apply Ext.alloc)))⟩
            case measure => (try simp only [HW.out]); simp [intOf]; omega
        · obtain rfl : k = ks.length := by omega
          have hmm : ¬ ((ks.length : Nat) : Int) < (ks.length : Int) := by omega
          go_wp2
          go_ret
          exact ⟨rfl, Ext.trans _ _ _ HX.out HX2.out⟩
end Go.Proofs.YtiimoaplhhnklaaDoor
