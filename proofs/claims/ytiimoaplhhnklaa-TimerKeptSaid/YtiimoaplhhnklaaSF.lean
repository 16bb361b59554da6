/- Timers: Drop and Set. -/
import Derived.Test.YtiimoaplhhnklaaSE
namespace Go.Proofs.Ytiimoaplhhnklaa
open Go.RowKit
set_option maxHeartbeats 4000000
set_option maxRecDepth 100000
set_option linter.unusedSimpArgs false
set_option linter.unusedVariables false

/-- What becomes of a timer that is written. -/
def TPost (B : Nat) (w : World) (tb mb : Nat) (v : Value) (l' : List Al) (w' : World) : Prop :=
  ∃ v', TimerAt B w' tb mb v' l' ∧ Xl (tb :: mb :: v.ownBlock.toList) w w' ∧ (v'.ownBlock = v.ownBlock ∨ ∃ g, w.heap.size ≤ g ∧ v'.ownBlock = some g)
/-- The same where its row stays where it is. -/
def TPost0 (B : Nat) (w : World) (tb mb : Nat) (v : Value) (l' : List Al) (w' : World) : Prop :=
  ∃ v', TimerAt B w' tb mb v' l' ∧ Xl (tb :: mb :: v.ownBlock.toList) w w' ∧ v'.ownBlock = v.ownBlock
theorem TPost0.to {B : Nat} {w w' : World} {tb mb : Nat} {v : Value} {l : List Al} (h : TPost0 B w tb mb v l w') : TPost B w tb mb v l w' := by
  obtain ⟨v', h1, h2, h3⟩ := h
  exact ⟨v', h1, h2, .inl h3⟩
structure NmAt (w : World) (b : Nat) (n : Nm) : Prop where
  c0 : w.cell? ⟨b, 0, none⟩ = some (.int .i64 n.1)
  c1 : w.cell? ⟨b, 1, none⟩ = some (.int .i64 n.2.1)
  c2 : w.cell? ⟨b, 2, none⟩ = some (.int .i64 n.2.2)
theorem NmAt.xl {L : List Nat} {w w' : World} {b : Nat} {n : Nm} (h : NmAt w b n) (hx : Xl L w w') (hn : b ∉ L) : NmAt w' b n :=
  ⟨(hx.cell (cell_lt h.c0) hn).trans h.c0, (hx.cell (cell_lt h.c1) hn).trans h.c1, (hx.cell (cell_lt h.c2) hn).trans h.c2⟩
theorem NmAt.ext {w w' : World} {b : Nat} {n : Nm} (h : NmAt w b n) (hx : Ext w w') : NmAt w' b n := h.xl (L := []) (Xl.of hx) (by simp)
theorem Xl.mono' {L L' : List Nat} {w w' : World} (h : Xl L w w') (hL : ∀ k ∈ L, k ∈ L') : Xl L' w w' := ⟨h.os, h.tape, h.output, h.size, fun k hk hn => h.block k hk fun e => hn (hL k e)⟩
theorem xl_grownBy {w w' : World} {v : Value} (h : w.grownBy w' v.ownBlock) : Xl v.ownBlock.toList w w' := ⟨h.os, h.tape, h.output, h.size, fun k hk hn => h.block k hk (by intro e; exact hn (by rw [← e]; simp))⟩
theorem blk_set {w : World} {tb mb : Nat} {v v' : Value} (h : w.heap[tb]? = some (.cells #[.map (some mb), v] 104 (0, 0))) : (w.setCell ⟨tb, 1, none⟩ v').heap[tb]? = some (.cells #[.map (some mb), v'] 104 (0, 0)) := by
  rw [heap_setCell_same w tb 1 #[.map (some mb), v] 104 v' h]
  rfl
theorem mset_at {n : Nm} {t : Int} {M : List (Nm × Int)} : mget n (mset n t M) = some t := by
  induction M with
  | nil => simp [mset, mget]
  | cons p M ih =>
    unfold mset
    split
    · rename_i e
      simp [mget, e]
    · rename_i e
      unfold mget
      rw [if_neg e]
      exact ih
theorem mset_other {n m : Nm} {t : Int} {M : List (Nm × Int)} (h : m ≠ n) : mget m (mset n t M) = mget m M := by
  induction M with
  | nil => simp [mset, mget, h]
  | cons p M ih =>
    unfold mset
    split
    · rename_i e
      have h' : ¬ m = p.1 := by rw [← e]; exact h
      simp only [mget, if_neg h']
    · unfold mget
      rw [ih]
theorem mdel_other {n m : Nm} {M : List (Nm × Int)} (h : m ≠ n) : mget m (mdel n M) = mget m M := by
  induction M with
  | nil => rfl
  | cons p M ih =>
    unfold mdel
    split
    · rename_i e
      have h' : ¬ m = p.1 := by rw [← e]; exact h
      simp only [mget, if_neg h']
    · unfold mget
      rw [ih]
/-- No key stands twice. -/
def MNod (M : List (Nm × Int)) : Prop := (M.map (·.1)).Nodup
theorem mget_none {n : Nm} {M : List (Nm × Int)} : mget n M = none ↔ n ∉ M.map (·.1) := by
  induction M with
  | nil => simp [mget]
  | cons p M ih =>
    unfold mget
    by_cases h : n = p.1
    · simp [h]
    · simp [h, ih]
theorem mdel_at {n : Nm} : ∀ {M : List (Nm × Int)}, MNod M → mget n (mdel n M) = none ∧ MNod (mdel n M)
  | [], _ => ⟨rfl, by simp [mdel, MNod]⟩
  | p :: M, h => by
    have h' := List.nodup_cons.1 (show (p.1 :: M.map (·.1)).Nodup from h)
    have ih := mdel_at (n := n) (M := M) h'.2
    unfold mdel
    split
    · rename_i e
      exact ⟨mget_none.2 (by rw [e]; exact h'.1), h'.2⟩
    · rename_i e
      refine ⟨by unfold mget; rw [if_neg e]; exact ih.1, ?_⟩
      refine List.nodup_cons.2 ⟨fun hm => ?_, ih.2⟩
      have h1 : mget p.1 (mdel n M) = none := by rw [mdel_other (Ne.symm e)]; exact mget_none.2 h'.1
      exact mget_none.1 h1 hm
theorem mset_nod {n : Nm} {t : Int} : ∀ {M : List (Nm × Int)}, MNod M → MNod (mset n t M)
  | [], _ => by simp [mset, MNod]
  | p :: M, h => by
    have h' := List.nodup_cons.1 (show (p.1 :: M.map (·.1)).Nodup from h)
    unfold mset
    split
    · exact h
    · rename_i e
      refine List.nodup_cons.2 ⟨fun hm => ?_, mset_nod (n := n) (t := t) (M := M) h'.2⟩
      have h1 : mget p.1 (mset n t M) = none := by rw [mset_other (Ne.symm e)]; exact mget_none.2 h'.1
      exact mget_none.1 h1 hm
theorem map_del {n : Nm} {l : List Al} {M : List (Nm × Int)} (hnd : (M.map (·.1)).Nodup) (hM : ∀ m, mget m M = atN m l) (hok : Ok l) : ∀ m, mget m (mdel n M) = atN m (del n l) := fun m => by
  rw [atN_del n m l hok]
  split
  · rename_i e; subst e; exact (mdel_at hnd).1
  · rename_i e; rw [mdel_other e]; exact hM m
theorem map_set {n : Nm} {t : Int} {l : List Al} {M : List (Nm × Int)} (hM : ∀ m, mget m M = atN m (del n l)) (hok : Ok l) : ∀ m, mget m (mset n t M) = atN m (setA n t l) := fun m => by
  rw [atN_setA m hok]
  split
  · rename_i e; subst e; exact mset_at
  · rename_i e; rw [mset_other e, hM m, atN_del n m l hok, if_neg e]
theorem tpost0_ext {B : Nat} {w w' : World} {tb mb : Nat} {v : Value} {l : List Al} (h : TimerAt B w tb mb v l) (hx : Ext w w') : TPost0 B w tb mb v l w' := ⟨v, h.ext hx, Xl.of hx, rfl⟩
theorem tpost_ext {B : Nat} {w w' : World} {tb mb : Nat} {v : Value} {l : List Al} (h : TimerAt B w tb mb v l) (hx : Ext w w') : TPost B w tb mb v l w' := ⟨v, h.ext hx, Xl.of hx, .inl rfl⟩
theorem tdrop_any {B : Nat} {w : World} {tb mb : Nat} {v : Value} {l : List Al} (h : TimerAt B w tb mb v l) (n : Nm) (hl : l.length ≤ 100000000000) :
    Calls Try.prog 26 #[.pointer (some ⟨tb, 0, none⟩), nmV n] w fun e w' => e = .returned (.bool (atN n l).isSome) ∧ TPost0 B w tb mb v (del n l) w' := by
  have H := hid_mk h
  have h0 := h.c0
  have h1 := h.c1
  obtain ⟨ho1, ho2, ho3, ho4, ho5, ho6⟩ := h.lt
  have HLT := hid_mk h.lt
  have HLEN := hid_mk hl
  obtain ⟨r, hr⟩ : ∃ r, atN n l = r := ⟨_, rfl⟩
  have HR := hid_mk hr
  rw [hr]
  have HL := hid_mk (fun (W : World) (hx : Ext w W) => (show (Instr.lookup 101 (.map (some mb)) (nmV n) true).run Try.prog W = .ok (.tuple #[.int .i64 (r.getD 0), .bool r.isSome]) W by rw [lookT (h.ext hx) n, hr]))
  obtain ⟨va, vc, rfl⟩ := own_form h.own
  clear h hr ho2 ho3 ho4 ho5 ho6 hl
  cases r with
  | none =>
    have HD := hid_mk (del_none HR.out)
    simp only [Option.getD_none, Option.isSome_none] at HL ⊢
    go_enter Try.func26, Try.ntmps26
    go_wp2_with fail
    refine wp_region_held_below (fun _ => true) (.quiet 0 (.quiet 1 (.quiet 2 (.quiet 3 (.quiet 4 (.quiet 5 (.quiet 6 (.quiet 7 (.quiet 8 (.quiet 9 (.quiet 10 .done))))))))))) (by kernel_rfl) (by kernel_rfl) (by intro c a w d v h; cases d <;> exact h) (fun ops HO => ?_)
    refine plan_read _ (hi_of HO rfl) rfl (fun w' hE => by (repeat (with_reducible replace hE := Ext.unD hE)); have hcE := hE.hc; clear hE; go_simp; rfl) ?_
    simp only [Act.put, List.setIfInBounds_toArray, List.set_cons_succ, List.set_cons_zero]
    refine plan_read _ (hi_of HO rfl) rfl (fun w' hE => by (repeat (with_reducible replace hE := Ext.unD hE)); have hcE := hE.hc; clear hE; go_simp; rfl) ?_
    simp only [Act.put, List.setIfInBounds_toArray, List.set_cons_succ, List.set_cons_zero]
    refine plan_read _ (hi_of HO rfl) rfl (fun w' hE => by (repeat (with_reducible replace hE := Ext.unD hE)); have hcE := hE.hc; clear hE; go_simp; rfl) ?_
    simp only [Act.put, List.setIfInBounds_toArray, List.set_cons_succ, List.set_cons_zero]
    refine plan_read _ (hi_of HO rfl) rfl (fun w' hE => by (repeat (with_reducible replace hE := Ext.unD hE)); have hcE := hE.hc; clear hE; go_simp; rfl) ?_
    simp only [Act.put, List.setIfInBounds_toArray, List.set_cons_succ, List.set_cons_zero]
    refine plan_read _ (hi_of HO rfl) rfl (fun w' hE => by (repeat (with_reducible replace hE := Ext.unD hE)); have hcE := hE.hc; clear hE; go_simp; rfl) ?_
    simp only [Act.put, List.setIfInBounds_toArray, List.set_cons_succ, List.set_cons_zero]
    refine plan_read _ (hi_of HO rfl) rfl (fun w' hE => by have hL := HL.out w' (Ext.trans _ _ _ (by (repeat (first | exact Ext.refl _ | apply Ext.drew_left | apply Ext.drew | apply Ext.alloc))) hE); clear hE; go_simp; rfl) ?_
    simp only [Act.put, List.setIfInBounds_toArray, List.set_cons_succ, List.set_cons_zero]
    refine plan_read _ (hi_of HO rfl) rfl (fun w' hE => by (repeat (with_reducible replace hE := Ext.unD hE)); have hcE := hE.hc; clear hE; go_simp; rfl) ?_
    simp only [Act.put, List.setIfInBounds_toArray, List.set_cons_succ, List.set_cons_zero]
    refine plan_read _ (hi_of HO rfl) rfl (fun w' hE => by (repeat (with_reducible replace hE := Ext.unD hE)); have hcE := hE.hc; clear hE; go_simp; rfl) ?_
    simp only [Act.put, List.setIfInBounds_toArray, List.set_cons_succ, List.set_cons_zero]
    refine plan_read _ (hi_of HO rfl) rfl (fun w' hE => by (repeat (with_reducible replace hE := Ext.unD hE)); have hcE := hE.hc; clear hE; go_simp; rfl) ?_
    simp only [Act.put, List.setIfInBounds_toArray, List.set_cons_succ, List.set_cons_zero]
    refine plan_read _ (hi_of HO rfl) rfl (fun w' hE => by (repeat (with_reducible replace hE := Ext.unD hE)); have hcE := hE.hc; clear hE; go_simp; rfl) ?_
    simp only [Act.put, List.setIfInBounds_toArray, List.set_cons_succ, List.set_cons_zero]
    refine plan_read _ (hi_of HO rfl) rfl (fun w' hE => by (repeat (with_reducible replace hE := Ext.unD hE)); have hcE := hE.hc; clear hE; go_simp; rfl) ?_
    simp only [Act.put, List.setIfInBounds_toArray, List.set_cons_succ, List.set_cons_zero]
    refine plan_done ?fin101
    go_wp2
    go_ret
    exact ⟨rfl, by rw [HD.out]; exact tpost0_ext H.out (by (repeat (first | exact Ext.refl _ | apply Ext.drew_left | apply Ext.drew | apply Ext.alloc)))⟩
  | some t =>
    simp only [Option.getD_some, Option.isSome_some] at HL ⊢
    obtain ⟨hpl, hpe, hpd⟩ := pos_mem H.out.ok (atN_mem HR.out)
    obtain ⟨q, hq⟩ : ∃ q, pos (n, t) l = q := ⟨_, rfl⟩
    rw [hq] at hpl hpd
    have HQ := hid_mk hq
    have HPD := hid_mk hpd
    have HF := hid_mk (show foundA (n, t) l = true by unfold foundA; rw [decide_eq_true_eq]; exact ⟨by rw [hq]; exact hpl, hpe⟩)
    have hqb : (q : Int) ≤ 100000000000 := by have := HLEN.out; omega
    have hq0 : (0 : Int) ≤ (q : Int) := by omega
    clear hpe hq hpd
    go_enter Try.func26, Try.ntmps26
    go_wp2_with fail
    refine gen_code (fun W1 => NmAt W1 w.heap.size n ∧ Ext w W1) ⟨⟨by go_simp, by go_simp, by go_simp⟩, by (repeat (first | exact Ext.refl _ | apply Ext.drew_left | apply Ext.drew | apply Ext.alloc))⟩ ?_
    rintro W1 ⟨hb, hx1⟩
    have HB := hid_mk hb
    have HX1 := hid_mk hx1
    obtain ⟨b0, b1, b2⟩ := hb
    have hbl := cell_lt b0
    replace h0 := cell_ext hx1 h0
    replace h1 := cell_ext hx1 h1
    replace ho1 := cell_lt h0
    clear hx1
    refine wp_region_held_below (fun _ => true) (.quiet 0 (.quiet 1 (.quiet 2 (.quiet 3 (.quiet 4 (.quiet 5 (.quiet 6 (.quiet 7 (.quiet 8 (.quiet 9 (.quiet 10 .done))))))))))) (by kernel_rfl) (by kernel_rfl) (by intro c a w d v h; cases d <;> exact h) (fun ops HO => ?_)
    refine plan_read _ (hi_of HO rfl) rfl (fun w' hE => by (repeat (with_reducible replace hE := Ext.unD hE)); have hcE := hE.hc; clear hE; go_simp; rfl) ?_
    simp only [Act.put, List.setIfInBounds_toArray, List.set_cons_succ, List.set_cons_zero]
    refine plan_read _ (hi_of HO rfl) rfl (fun w' hE => by (repeat (with_reducible replace hE := Ext.unD hE)); have hcE := hE.hc; clear hE; go_simp; rfl) ?_
    simp only [Act.put, List.setIfInBounds_toArray, List.set_cons_succ, List.set_cons_zero]
    refine plan_read _ (hi_of HO rfl) rfl (fun w' hE => by (repeat (with_reducible replace hE := Ext.unD hE)); have hcE := hE.hc; clear hE; go_simp; rfl) ?_
    simp only [Act.put, List.setIfInBounds_toArray, List.set_cons_succ, List.set_cons_zero]
    refine plan_read _ (hi_of HO rfl) rfl (fun w' hE => by (repeat (with_reducible replace hE := Ext.unD hE)); have hcE := hE.hc; clear hE; go_simp; rfl) ?_
    simp only [Act.put, List.setIfInBounds_toArray, List.set_cons_succ, List.set_cons_zero]
    refine plan_read _ (hi_of HO rfl) rfl (fun w' hE => by (repeat (with_reducible replace hE := Ext.unD hE)); have hcE := hE.hc; clear hE; go_simp; rfl) ?_
    simp only [Act.put, List.setIfInBounds_toArray, List.set_cons_succ, List.set_cons_zero]
    refine plan_read _ (hi_of HO rfl) rfl (fun w' hE => by have hL := HL.out w' (Ext.trans _ _ _ HX1.out (Ext.trans _ _ _ (by (repeat (first | exact Ext.refl _ | apply Ext.drew_left | apply Ext.drew | apply Ext.alloc))) hE)); clear hE; go_simp; rfl) ?_
    simp only [Act.put, List.setIfInBounds_toArray, List.set_cons_succ, List.set_cons_zero]
    refine plan_read _ (hi_of HO rfl) rfl (fun w' hE => by (repeat (with_reducible replace hE := Ext.unD hE)); have hcE := hE.hc; clear hE; go_simp; rfl) ?_
    simp only [Act.put, List.setIfInBounds_toArray, List.set_cons_succ, List.set_cons_zero]
    refine plan_read _ (hi_of HO rfl) rfl (fun w' hE => by (repeat (with_reducible replace hE := Ext.unD hE)); have hcE := hE.hc; clear hE; go_simp; rfl) ?_
    simp only [Act.put, List.setIfInBounds_toArray, List.set_cons_succ, List.set_cons_zero]
    refine plan_read _ (hi_of HO rfl) rfl (fun w' hE => by (repeat (with_reducible replace hE := Ext.unD hE)); have hcE := hE.hc; clear hE; go_simp; rfl) ?_
    simp only [Act.put, List.setIfInBounds_toArray, List.set_cons_succ, List.set_cons_zero]
    refine plan_read _ (hi_of HO rfl) rfl (fun w' hE => by (repeat (with_reducible replace hE := Ext.unD hE)); have hcE := hE.hc; clear hE; go_simp; rfl) ?_
    simp only [Act.put, List.setIfInBounds_toArray, List.set_cons_succ, List.set_cons_zero]
    refine plan_read _ (hi_of HO rfl) rfl (fun w' hE => by (repeat (with_reducible replace hE := Ext.unD hE)); have hcE := hE.hc; clear hE; go_simp; rfl) ?_
    simp only [Act.put, List.setIfInBounds_toArray, List.set_cons_succ, List.set_cons_zero]
    refine plan_done ?fin102
    go_wp2_with fail
    refine wp_region_held_below (fun _ => true) (.quiet 0 (.quiet 1 (.quiet 2 (.quiet 3 (.quiet 4 (.quiet 5 (.quiet 6 (.alt 7 (.quiet 8 (.quiet 9 (.quiet 10 (.quiet 11 (.quiet 12 .done))))) .stop)))))))) (by kernel_rfl) (by kernel_rfl) (by intro c a w d v h; cases d <;> exact h) (fun ops HO => ?_)
    refine plan_read _ (hi_of HO rfl) rfl (fun w' hE => by (repeat (with_reducible replace hE := Ext.unD hE)); have hcE := hE.hc; clear hE; go_simp; rfl) ?_
    simp only [Act.put, List.setIfInBounds_toArray, List.set_cons_succ, List.set_cons_zero]
    refine plan_read _ (hi_of HO rfl) rfl (fun w' hE => by (repeat (with_reducible replace hE := Ext.unD hE)); have hcE := hE.hc; clear hE; go_simp; rfl) ?_
    simp only [Act.put, List.setIfInBounds_toArray, List.set_cons_succ, List.set_cons_zero]
    refine plan_read _ (hi_of HO rfl) rfl (fun w' hE => by (repeat (with_reducible replace hE := Ext.unD hE)); have hcE := hE.hc; clear hE; go_simp; rfl) ?_
    simp only [Act.put, List.setIfInBounds_toArray, List.set_cons_succ, List.set_cons_zero]
    refine plan_read _ (hi_of HO rfl) rfl (fun w' hE => by (repeat (with_reducible replace hE := Ext.unD hE)); have hcE := hE.hc; clear hE; go_simp; rfl) ?_
    simp only [Act.put, List.setIfInBounds_toArray, List.set_cons_succ, List.set_cons_zero]
    refine plan_read _ (hi_of HO rfl) rfl (fun w' hE => by (repeat (with_reducible replace hE := Ext.unD hE)); have hcE := hE.hc; clear hE; go_simp; rfl) ?_
    simp only [Act.put, List.setIfInBounds_toArray, List.set_cons_succ, List.set_cons_zero]
    refine plan_read _ (hi_of HO rfl) rfl (fun w' hE => by (repeat (with_reducible replace hE := Ext.unD hE)); have hcE := hE.hc; clear hE; go_simp; rfl) ?_
    simp only [Act.put, List.setIfInBounds_toArray, List.set_cons_succ, List.set_cons_zero]
    refine plan_read _ (hi_of HO rfl) rfl (fun w' hE => by (repeat (with_reducible replace hE := Ext.unD hE)); have hcE := hE.hc; clear hE; go_simp; rfl) ?_
    simp only [Act.put, List.setIfInBounds_toArray, List.set_cons_succ, List.set_cons_zero]
    refine plan_call1 en_BSF (hi_of HO rfl) rfl rfl (by go_simp; rfl) (by exact (bsf_any (n, t) ((H.out.ext (Ext.trans _ _ _ HX1.out (by (repeat (first | exact Ext.refl _ | apply Ext.drew_left | apply Ext.drew | apply Ext.alloc))))).form (by have := HLEN.out; omega)) H.out.ok)) ?_
    rintro e v103 ⟨rfl, hx103⟩
    refine ⟨_, rfl, fun _ => hx103, ?_⟩
    have hy103 := hid_mk (by first | (with_reducible exact Ext.unD hx103) | exact hx103 : Ext _ v103)
    have hc103 := hx103.hc; have hl103 := hx103.hl; have he103 := hx103.hle; have hn103 := hx103.hne; replace hx103 := hid_mk hx103
    simp only [Act.put, List.setIfInBounds_toArray, List.set_cons_succ, List.set_cons_zero]
    have HZ := hy103
    refine plan_read _ (hi_of HO rfl) rfl (fun w' hE => by have hcE := (Ext.trans _ _ _ (by (repeat (first | exact hx103.out | apply Ext.drew | apply Ext.alloc))) hE).hc; (repeat (with_reducible replace hE := Ext.unD hE)); have hcF := hE.hc; clear hE; go_simp; rfl) ?_
    simp only [Act.put, List.setIfInBounds_toArray, List.set_cons_succ, List.set_cons_zero]
    refine plan_read _ (hi_of HO rfl) rfl (fun w' hE => by have hcE := (Ext.trans _ _ _ (by (repeat (first | exact hx103.out | apply Ext.drew | apply Ext.alloc))) hE).hc; (repeat (with_reducible replace hE := Ext.unD hE)); have hcF := hE.hc; clear hE; go_simp; rfl) ?_
    simp only [Act.put, List.setIfInBounds_toArray, List.set_cons_succ, List.set_cons_zero]
    refine plan_read _ (hi_of HO rfl) rfl (fun w' hE => by have hcE := (Ext.trans _ _ _ (by (repeat (first | exact hx103.out | apply Ext.drew | apply Ext.alloc))) hE).hc; (repeat (with_reducible replace hE := Ext.unD hE)); have hcF := hE.hc; clear hE; go_simp; rfl) ?_
    simp only [Act.put, List.setIfInBounds_toArray, List.set_cons_succ, List.set_cons_zero]
    refine plan_read _ (hi_of HO rfl) rfl (fun w' hE => by have hcE := (Ext.trans _ _ _ (by (repeat (first | exact hx103.out | apply Ext.drew | apply Ext.alloc))) hE).hc; (repeat (with_reducible replace hE := Ext.unD hE)); have hcF := hE.hc; clear hE; go_simp; rfl) ?_
    simp only [Act.put, List.setIfInBounds_toArray, List.set_cons_succ, List.set_cons_zero]
    refine plan_read _ (hi_of HO rfl) rfl (fun w' hE => by have hcE := (Ext.trans _ _ _ (by (repeat (first | exact hx103.out | apply Ext.drew | apply Ext.alloc))) hE).hc; (repeat (with_reducible replace hE := Ext.unD hE)); have hcF := hE.hc; clear hE; go_simp; rfl) ?_
    simp only [Act.put, List.setIfInBounds_toArray, List.set_cons_succ, List.set_cons_zero]
    refine plan_done ?fin104
    rw [HQ.out, HF.out]
    have HX2 := hid_mk (Ext.trans w _ _ HX1.out (Ext.trans _ _ _ (by (repeat (first | exact Ext.refl _ | apply Ext.drew_left | apply Ext.drew | apply Ext.alloc))) HZ.out))
    clear b0 b1 b2 hbl h0 h1 ho1
    have hc1 := cell_ext HX2.out H.out.c1
    have htl := cell_lt hc1
    have hw1 : wrap64 ((q : Int) + 1) = (q : Int) + 1 := w64in (by omega)
    go_wp2_with fail
    clear hw1
    refine (delete_any (own_ext H.out.own HX2.out) hpl (by have := HLEN.out; omega)).mono ?_
    rintro e w9 ⟨v9, rfl, ho9, hg9, hb9⟩
    rw [HPD.out] at ho9
    obtain ⟨a9, c9, rfl⟩ := own_form ho9
    have hx9 : Xl (Value.slice va l.length vc).ownBlock.toList w w9 := Xl.trans _ _ _ (Xl.of HX2.out) (xl_grownBy hg9)
    have hb9' : w9.heap[tb]? = some (.cells #[.map (some mb), .slice va l.length vc] 104 (0, 0)) := (hx9.block tb HLT.out.1 (by
      intro hm
      exact HLT.out.2.2.2.2.1 (by simpa using hm))).trans H.out.blk
    have hbn : NmAt w9 w.heap.size n := (HB.out.ext (Ext.trans _ _ _ (by (repeat (first | exact Ext.refl _ | apply Ext.drew_left | apply Ext.drew | apply Ext.alloc))) HZ.out)).xl (xl_grownBy hg9) (by
      intro hm
      have := (HLT.out.2.2.1 w.heap.size (by simpa using hm)).2
      omega)
    have hs9 := blk_set (v' := .slice a9 (del n l).length c9) hb9'
    have hx10 : Xl (tb :: (Value.slice va l.length vc).ownBlock.toList) w (w9.setCell ⟨tb, 1, none⟩ (.slice a9 (del n l).length c9)) := (hx9.mono' (by intro k hk; simp [hk])).set (by simp)
    have HO9 := hid_mk (show OwnA (w9.setCell ⟨tb, 1, none⟩ (.slice a9 (del n l).length c9)) B 106 (.slice a9 (del n l).length c9) (del n l) from xl_grown (L := [tb]) ((Xl.refl w9).set (by simp)) (by
      intro g hg
      rw [hb9] at hg
      have := HLT.out.2.2.2.2.1
      intro hm
      simp at hm
      subst hm
      exact this hg) ho9)
    have HB9 := hid_mk hs9
    have HX10 := hid_mk hx10
    have HOB := hid_mk hb9
    have c9' : w9.cell? ⟨tb, 1, none⟩ = some (.slice va l.length vc) := by simp [World.cell?, hb9']
    have f9' : w9.frozen? ⟨tb, 1, none⟩ = false := by simp [World.frozen?, hb9']
    have htl9 := cell_lt c9'
    have HNB := hid_mk (show NmAt (w9.setCell ⟨tb, 1, none⟩ (.slice a9 (del n l).length c9)) w.heap.size n from hbn.xl (L := [tb]) ((Xl.refl w9).set (by simp)) (by have := HLT.out.1; simp; omega))
    clear ho9 hg9 hb9 hx9 hb9' hbn hs9 hx10 hc1 htl
    go_wp2_with fail
    obtain ⟨W10, hW10⟩ : ∃ W, w9.setCell ⟨tb, 1, none⟩ (.slice a9 (del n l).length c9) = W := ⟨_, rfl⟩
    rw [hW10] at HB9 HX10 HO9 HNB ⊢
    clear hW10 c9' f9' htl9
    have hmb : mb ∉ tb :: (Value.slice va l.length vc).ownBlock.toList := by
      intro hm
      rcases List.mem_cons.1 hm with e | e
      · exact HLT.out.2.2.2.1 e.symm
      · exact HLT.out.2.2.2.2.2 (by simpa using e)
    obtain ⟨M, hm, hnd, hM⟩ := H.out.map
    obtain ⟨W11, hrun, hm11, hx11⟩ := map_delete key_nm Try.underlying101 (w := W10.drew) (b := mb) (M := M) ((hm.xl HX10.out hmb).xl (L := []) (Xl.of ((Ext.refl W10).drew)) (by simp)) n 0
    have hx12 : Xl [mb] W10 W11 := Xl.trans _ _ _ (Xl.of ((Ext.refl W10).drew)) hx11
    have HP : Hid (TPost0 B w tb mb (.slice va l.length vc) (del n l) W11) := hid_mk ⟨.slice a9 (del n l).length c9, ⟨(hx12.block tb (Array.getElem?_eq_some_iff.1 HB9.out).1 (by have := HLT.out.2.2.2.1; simpa using this)).trans HB9.out,
      xl_grown hx12 (by intro g hg e; rw [HOB.out] at hg; simp at e; subst e; exact HLT.out.2.2.2.2.2 hg) HO9.out, ⟨mdel n M, hm11, (mdel_at hnd).2, map_del hnd hM H.out.ok⟩, ok_del H.out.ok,
      ⟨H.out.lo.1, H.out.lo.2.1, Nat.le_trans H.out.lo.2.2 (Nat.le_trans HX10.out.size hx12.size)⟩⟩,
      Xl.trans _ _ _ (HX10.out.mono' (by intro k hk; simp at hk ⊢; rcases hk with h | h <;> simp [h])) (hx12.mono' (by simp)), HOB.out⟩
    have c0 : W10.cell? ⟨tb, 0, none⟩ = some (.map (some mb)) := by simp [World.cell?, HB9.out]
    have htl := cell_lt c0
    obtain ⟨b0, b1, b2⟩ := HNB.out
    have hbl := cell_lt b0
    have HRUN := hid_mk hrun
    clear hm11 hx11 hx12 hM hnd hm hmb hrun
    refine wp_region_held_planC Ext (fun i => i != 5) (fun i => [0, 1, 2].contains i) (.quiet 0 (.quiet 1 (.quiet 2 (.quiet 3 (.quiet 4 (.alt 5 .done .stop)))))) (by kernel_rfl) (by kernel_rfl) Ext.refl Ext.trans (by intro c a w d v h; cases d <;> exact h) (fun ops HO => ?_)
    refine planC_calm _ (hi_of HO rfl) rfl (fun w' => by go_simp; rfl) ?_
    simp only [Act.put, List.setIfInBounds_toArray, List.set_cons_succ, List.set_cons_zero]
    refine planC_calm _ (hi_of HO rfl) rfl (fun w' => by go_simp; rfl) ?_
    simp only [Act.put, List.setIfInBounds_toArray, List.set_cons_succ, List.set_cons_zero]
    refine planC_calm _ (hi_of HO rfl) rfl (fun w' => by go_simp; rfl) ?_
    simp only [Act.put, List.setIfInBounds_toArray, List.set_cons_succ, List.set_cons_zero]
    refine planC_read _ (hi_of HO rfl) rfl rfl (fun w' hE => by (repeat (with_reducible replace hE := Ext.unD hE)); have hcE := hE.hc; clear hE; go_simp; rfl) ?_
    simp only [Act.put, List.setIfInBounds_toArray, List.set_cons_succ, List.set_cons_zero]
    refine planC_read _ (hi_of HO rfl) rfl rfl (fun w' hE => by (repeat (with_reducible replace hE := Ext.unD hE)); have hcE := hE.hc; clear hE; go_simp; rfl) ?_
    simp only [Act.put, List.setIfInBounds_toArray, List.set_cons_succ, List.set_cons_zero]
    have hrun := HRUN.out
    refine planC_loud1 (hi_of HO rfl) rfl ?_
    go_simp
    clear hrun
    refine planC_done ?fin105
    go_wp2
    go_ret
    exact ⟨rfl, HP.out⟩
end Go.Proofs.Ytiimoaplhhnklaa
