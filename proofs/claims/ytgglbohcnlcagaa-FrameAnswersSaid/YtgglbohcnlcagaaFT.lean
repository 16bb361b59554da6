/- What is lent, used; and whether it is still as it was. -/
import Derived.Test.YtgglbohcnlcagaaFS
import Derived.Test.YtgglbohcnlcagaaFD
namespace Go.Proofs.Ytgglbohcnlcagaa
open Go.RowKit
set_option maxHeartbeats 8000000
set_option maxRecDepth 100000
set_option linter.unusedSimpArgs false
set_option linter.unusedVariables false
theorem en_used : Enters Try.prog 24 := ⟨_, Try.func24, by kernel_rfl, rfl⟩
theorem en_still : Enters Try.prog 31 := ⟨_, Try.func31, by kernel_rfl, rfl⟩

/-- A part's eight cells. -/
structure HdrAt (w : World) (b o : Nat) (p : Prt) (sv : Value) : Prop where
  c0 : w.cell? ⟨b, o, none⟩ = some (.int .i64 p.kind)
  c1 : w.cell? ⟨b, o + 1, none⟩ = some (.string p.lo)
  c2 : w.cell? ⟨b, o + 2, none⟩ = some (.string p.hi)
  c3 : w.cell? ⟨b, o + 3, none⟩ = some (.bool p.op)
  c4 : w.cell? ⟨b, o + 4, none⟩ = some (.int .i64 p.cnt)
  c5 : w.cell? ⟨b, o + 5, none⟩ = some (.int .u64 p.s0)
  c6 : w.cell? ⟨b, o + 6, none⟩ = some (.int .u64 p.s1)
  c7 : w.cell? ⟨b, o + 7, none⟩ = some sv
theorem HdrAt.ext {w w' : World} {b o : Nat} {p : Prt} {sv : Value} (h : HdrAt w b o p sv) (hx : Ext w w') : HdrAt w' b o p sv :=
  ⟨cell_ext hx h.c0, cell_ext hx h.c1, cell_ext hx h.c2, cell_ext hx h.c3, cell_ext hx h.c4, cell_ext hx h.c5, cell_ext hx h.c6, cell_ext hx h.c7⟩

/-- One part of what is lent: its entries, and two marks behind them; m of them are shown. -/
def LentP (B M : Nat) (w : World) (S o : Nat) (p : Prt) (m : Nat) : Prop :=
  ∃ E ce, (B ≤ E ∧ E < M) ∧ E ≠ S ∧ p.ents.length + 2 ≤ ce ∧ HdrAt w S o p (.slice (some ⟨E, 0, none⟩) m ce) ∧ w.frozen? ⟨S, o + 7, none⟩ = false ∧ ∀ j, (hj : j < (p.ents ++ marks).length) → EntAt w E (j * 5) (p.ents ++ marks)[j]
/-- What is lent, the first k parts cut down to what is used. -/
structure LentAt (B M : Nat) (w : World) (S c k : Nat) (l : List Prt) : Prop where
  base : B ≤ S ∧ S < M
  cap : l.length + 2 ≤ c
  parts : ∀ i, (h : i < l.length) → LentP B M w S (i * 8) l[i] (if i < k then l[i].ents.length else l[i].ents.length + 2)
  m77 : w.cell? ⟨S, l.length * 8, none⟩ = some (.int .i64 77)
  m78 : w.cell? ⟨S, (l.length + 1) * 8, none⟩ = some (.int .i64 78)
theorem LentP.ext {B M : Nat} {w w' : World} {S o : Nat} {p : Prt} {m : Nat} (h : LentP B M w S o p m) (hx : Ext w w')   : LentP B M w' S o p m := by
  obtain ⟨E, ce, h1, h2, h3, h4, h5, h6⟩ := h
  exact ⟨E, ce, h1, h2, h3, h4.ext hx, frozen_ext' hx (cell_lt h4.c0) h5, fun j hj => (h6 j hj).ext hx⟩
theorem LentAt.ext {B M : Nat} {w w' : World} {S c k : Nat} {l : List Prt} (h : LentAt B M w S c k l) (hx : Ext w w') : LentAt B M w' S c k l :=
  ⟨h.base, h.cap, fun i hi => (h.parts i hi).ext hx, cell_ext hx h.m77, cell_ext hx h.m78⟩
theorem HdrAt.set {w : World} {S i j : Nat} {u ev : Value} {p : Prt} (h : HdrAt w S (i * 8) p ev) (hij : i ≠ j) : HdrAt (w.setCell ⟨S, j * 8 + 7, none⟩ u) S (i * 8) p ev :=
  ⟨(cell_set_ne2 (by omega)).trans h.c0, (cell_set_ne2 (by omega)).trans h.c1, (cell_set_ne2 (by omega)).trans h.c2, (cell_set_ne2 (by omega)).trans h.c3, (cell_set_ne2 (by omega)).trans h.c4,
   (cell_set_ne2 (by omega)).trans h.c5, (cell_set_ne2 (by omega)).trans h.c6, (cell_set_ne2 (by omega)).trans h.c7⟩
theorem HdrAt.setS {w : World} {S i : Nat} {u ev : Value} {p : Prt} (h : HdrAt w S (i * 8) p ev) : HdrAt (w.setCell ⟨S, i * 8 + 7, none⟩ u) S (i * 8) p u :=
  ⟨(cell_set_ne2 (by omega)).trans h.c0, (cell_set_ne2 (by omega)).trans h.c1, (cell_set_ne2 (by omega)).trans h.c2, (cell_set_ne2 (by omega)).trans h.c3, (cell_set_ne2 (by omega)).trans h.c4,
   (cell_set_ne2 (by omega)).trans h.c5, (cell_set_ne2 (by omega)).trans h.c6, cell_set_eq h.c7⟩
theorem LentAt.step {B M : Nat} {w : World} {S c k : Nat} {l : List Prt} (h : LentAt B M w S c k l) (hk : k < l.length) {E ce : Nat} (hc : w.cell? ⟨S, k * 8 + 7, none⟩ = some (.slice (some ⟨E, 0, none⟩) (l[k].ents.length + 2) ce)) :
    LentAt B M (w.setCell ⟨S, k * 8 + 7, none⟩ (.slice (some ⟨E, 0, none⟩) l[k].ents.length ce)) S c (k + 1) l := by
  refine ⟨h.base, h.cap, fun i hi => ?_, (cell_set_ne2 (by omega)).trans h.m77, (cell_set_ne2 (by omega)).trans h.m78⟩
  obtain ⟨E1, ce1, h1, h2, h3, h4, h5, h6⟩ := h.parts i hi
  by_cases hik : i = k
  · subst hik
    rw [if_neg (Nat.lt_irrefl _)] at h4
    have e := h4.c7
    rw [hc] at e
    cases e
    exact ⟨E, ce, h1, h2, h3, by rw [if_pos (Nat.lt_succ_self _)]; exact h4.setS, frozen_set h5, fun j hj => (h6 j hj).set h2⟩
  · refine ⟨E1, ce1, h1, h2, h3, ?_, frozen_set h5, fun j hj => (h6 j hj).set h2⟩
    have e : (if i < k + 1 then l[i].ents.length else l[i].ents.length + 2) = (if i < k then l[i].ents.length else l[i].ents.length + 2) := by
      by_cases h7 : i < k
      · rw [if_pos h7, if_pos (by omega)]
      · rw [if_neg h7, if_neg (by omega)]
    rw [e]
    exact h4.set hik
theorem LentAt.sl {B M : Nat} {w : World} {S c : Nat} {l : List Prt} (h : LentAt B M w S c l.length l) (hm : l.length ≤ 4611686018427387904) (hme : ∀ p ∈ l, p.ents.length ≤ 4611686018427387904) : PrtSl w (.slice (some ⟨S, 0, none⟩) l.length c) l := by
  refine ⟨_, _, rfl, by have := h.cap; omega, hm, fun hp => ⟨S, 0, rfl, fun i hi => ?_⟩⟩
  obtain ⟨E, ce, h1, h2, h3, h4, h5, h6⟩ := h.parts i hi
  rw [if_pos hi] at h4
  rw [Nat.zero_add]
  refine ⟨_, h4.c0, h4.c1, h4.c2, h4.c3, h4.c4, h4.c5, h4.c6, h4.c7, ⟨_, _, rfl, by omega, hme _ (List.getElem_mem hi), fun hp => ⟨E, 0, rfl, fun j hj => ?_⟩⟩⟩
  have := h6 j (by rw [List.length_append]; omega)
  rw [List.getElem_append_left hj] at this
  rw [Nat.zero_add]
  exact this

theorem HdrAt.setB {w : World} {S R j o : Nat} {u ev : Value} {p : Prt} (h : HdrAt w S o p ev) (hR : S ≠ R) : HdrAt (w.setCell ⟨R, j, none⟩ u) S o p ev :=
  ⟨(cell_set_ne hR).trans h.c0, (cell_set_ne hR).trans h.c1, (cell_set_ne hR).trans h.c2, (cell_set_ne hR).trans h.c3, (cell_set_ne hR).trans h.c4,
   (cell_set_ne hR).trans h.c5, (cell_set_ne hR).trans h.c6, (cell_set_ne hR).trans h.c7⟩
theorem LentAt.setB {B M : Nat} {w : World} {S c k R j : Nat} {u : Value} {l : List Prt} (h : LentAt B M w S c k l) (hR : M ≤ R) : LentAt B M (w.setCell ⟨R, j, none⟩ u) S c k l := by
  have hS := h.base.2
  refine ⟨h.base, h.cap, fun i hi => ?_, (cell_set_ne (by omega)).trans h.m77, (cell_set_ne (by omega)).trans h.m78⟩
  obtain ⟨E, ce, h1, h2, h3, h4, h5, h6⟩ := h.parts i hi
  exact ⟨E, ce, h1, h2, h3, h4.setB (by omega), frozen_set h5, fun j hj => (h6 j hj).set (by omega)⟩

/-- What lent hands back. -/
theorem lentAt_of {B : Nat} {w : World} {S c : Nat} {l : List Prt} {qs : List (Prt × Value)} (hq : qs.map (·.1) = l.map mkP)
    (hr : w.ownsRow B 41 8 (.slice (some ⟨S, 0, none⟩) (l.length + 2) c) (l.length + 2) ((qs ++ [(prt77, Value.slice none 0 0), (prt78, Value.slice none 0 0)]).flatMap pcL)) (hE : ∀ q ∈ qs, OwnE B w q.2 q.1.ents) : LentAt B w.heap.size w S c 0 l := by
  have hql : qs.length = l.length := by have := congrArg List.length hq; simpa using this
  obtain ⟨S', c', e, hcell⟩ := own_cell hr (by omega)
  cases e
  have hrr := hr
  rcases hr.2 with ⟨h1, -⟩ | ⟨g, cap, cur, h1, h2, h3, h4, h5, h6, h7⟩
  · cases h1
  cases h1
  have hget : ∀ i j, (hi : i < (qs ++ [(prt77, Value.slice none 0 0), (prt78, Value.slice none 0 0)]).length) → j < 8 → ∀ u, (pcL (qs ++ [(prt77, Value.slice none 0 0), (prt78, Value.slice none 0 0)])[i])[j]? = some u → w.cell? ⟨S, i * 8 + j, none⟩ = some u := fun i j hi hj u hu =>
    hcell _ _ ((flat_get pcL 8 (by omega) (fun _ => rfl) _ i hi j hj).trans hu)
  refine ⟨⟨h2, (Array.getElem?_eq_some_iff.1 h3).1⟩, h4, fun i hi => ?_, ?_, ?_⟩
  · have hiq : i < qs.length := by omega
    have hia : i < (qs ++ [(prt77, Value.slice none 0 0), (prt78, Value.slice none 0 0)]).length := by rw [List.length_append]; omega
    have e1 : (qs ++ [(prt77, Value.slice none 0 0), (prt78, Value.slice none 0 0)])[i] = qs[i] := List.getElem_append_left hiq
    have e2 : qs[i].1 = mkP l[i] := by
      have h := congrArg (fun x => x[i]?) hq
      simp only [List.getElem?_map, List.getElem?_eq_getElem hiq, List.getElem?_eq_getElem hi, Option.map_some, Option.some.injEq] at h
      exact h
    obtain ⟨hE1, E, ce, hE2⟩ := hE qs[i] (List.getElem_mem hiq)
    have e3 : qs[i].1.ents.length = l[i].ents.length + 2 := by rw [e2]; simp [mkP, marks]
    have hap : E ≠ S := by
      rcases own_apart hE1 hrr (by decide) with h | h
      · rw [hE2] at h; cases h
      · rw [hE2] at h; intro e; exact h (by rw [e]; rfl)
    obtain ⟨S9, c9, e9, hecell⟩ := own_cell hE1 (by omega)
    rw [hE2] at e9
    cases e9
    have hce : l[i].ents.length + 2 ≤ ce := by
      rcases hE1.2 with ⟨h1, -⟩ | ⟨g, cap, cur, h1, k2, k3, k4, -⟩
      · rw [hE2] at h1; cases h1
      · rw [hE2] at h1; cases h1; rw [← e3]; exact k4
    have hg := hget i
    simp only [e1] at hg
    have hp : pcL qs[i] = [.int .i64 l[i].kind, .string l[i].lo, .string l[i].hi, .bool l[i].op, .int .i64 l[i].cnt, .int .u64 l[i].s0, .int .u64 l[i].s1, .slice (some ⟨E, 0, none⟩) (l[i].ents.length + 2) ce] := by
      unfold pcL
      rw [e2, hE2, e3]
      rfl
    rw [hp] at hg
    refine ⟨E, ce, ?_, hap, hce, ?_, by simp [World.frozen?, h3], fun j hj => ?_⟩
    · exact hE1.lt E (by rw [hE2]; rfl)
    · rw [if_neg (Nat.not_lt_zero _)]
      exact ⟨hg 0 hia (by omega) _ rfl, hg 1 hia (by omega) _ rfl, hg 2 hia (by omega) _ rfl, hg 3 hia (by omega) _ rfl, hg 4 hia (by omega) _ rfl, hg 5 hia (by omega) _ rfl, hg 6 hia (by omega) _ rfl, hg 7 hia (by omega) _ rfl⟩
    · have e4 : qs[i].1.ents = l[i].ents ++ marks := by rw [e2]; rfl
      have hjq : j < qs[i].1.ents.length := by rw [e4]; exact hj
      have e5 : qs[i].1.ents[j] = (l[i].ents ++ marks)[j] := by simp only [e4]
      have k : ∀ r, r < 5 → ∀ u, (ecL (l[i].ents ++ marks)[j])[r]? = some u → w.cell? ⟨E, j * 5 + r, none⟩ = some u := fun r hr u hu =>
        hecell _ _ ((flat_get ecL 5 (by omega) (fun _ => rfl) _ j hjq r hr).trans (by rw [e5]; exact hu))
      exact ⟨k 0 (by omega) _ rfl, k 1 (by omega) _ rfl, k 2 (by omega) _ rfl, k 3 (by omega) _ rfl, k 4 (by omega) _ rfl⟩
  · have h := hget l.length 0 (by rw [List.length_append, hql]; simp) (by omega) (.int .i64 77) (by
      rw [List.getElem_append_right (by omega)]
      simp only [hql, Nat.sub_self, List.getElem_cons_zero]
      rfl)
    exact h
  · have h := hget (l.length + 1) 0 (by rw [List.length_append, hql]; simp) (by omega) (.int .i64 78) (by
      rw [List.getElem_append_right (by omega)]
      simp only [hql, Nat.add_sub_cancel_left, List.getElem_cons_succ, List.getElem_cons_zero]
      rfl)
    exact h

theorem used_any (B M : Nat) (f t o li nu tu : Int) (l : List Prt) (S c : Nat) (w : World) (hL : LentAt B M w S c 0 l) (hM : M ≤ w.heap.size) (hm : l.length ≤ 536870912) (hme : ∀ p ∈ l, p.ents.length ≤ 536870912) :
    Calls Try.prog 24 #[.agg #[.int .i64 f, .int .i64 t, .int .i64 o, .int .i64 li, .int .i64 nu, .int .i64 tu, .slice (some ⟨S, 0, none⟩) (l.length + 2) c]] w
      fun e w' => e = .returned (.agg #[.int .i64 f, .int .i64 t, .int .i64 o, .int .i64 li, .int .i64 nu, .int .i64 tu, .slice (some ⟨S, 0, none⟩) l.length c]) ∧ LentAt B M w' S c l.length l ∧ w.grownBy w' (some S) := by
  have HL := hid_mk hL
  have HME := hid_mk hme
  have hcap := hL.cap
  have hSl := cell_lt hL.m77
  clear hL hme
  go_enter Try.func24, Try.ntmps24
  have hwn : IntKind.i64.wrap (l.length : Int) = (l.length : Int) := wrapN _ (by omega)
  have hc1 : l.length ≤ c := by omega
  have hc2 : (0 : Int) ≤ (l.length : Int) := by omega
  have hc3 : (l.length : Int) ≤ (c : Int) := by omega
  go_wp2
  have BR : BoxF ((w.alloc (.cells #[.int .i64 f, .int .i64 t, .int .i64 o, .int .i64 li, .int .i64 nu, .int .i64 tu, .slice (some ⟨S, 0, none⟩) (l.length + 2) c] 26)).alloc (.cells #[.int .i64 0, .int .i64 0, .int .i64 0, .int .i64 0, .int .i64 0, .int .i64 0, .slice none 0 0] 26)) (w.heap.size + 1) 0 0 0 0 0 0 (.slice none 0 0) := by
    have h := BoxF.new (w.alloc (.cells #[.int .i64 f, .int .i64 t, .int .i64 o, .int .i64 li, .int .i64 nu, .int .i64 tu, .slice (some ⟨S, 0, none⟩) (l.length + 2) c] 26)) 0 0 0 0 0 0 (.slice none 0 0)
    rwa [World.size_alloc] at h
  have BH := BoxF.new ((w.alloc (.cells #[.int .i64 f, .int .i64 t, .int .i64 o, .int .i64 li, .int .i64 nu, .int .i64 tu, .slice (some ⟨S, 0, none⟩) (l.length + 2) c] 26)).alloc (.cells #[.int .i64 0, .int .i64 0, .int .i64 0, .int .i64 0, .int .i64 0, .int .i64 0, .slice none 0 0] 26)) f t o li nu tu (.slice (some ⟨S, 0, none⟩) l.length c)
  rw [World.size_alloc, World.size_alloc] at BH
  have hx0 : Ext w (((w.alloc (.cells #[.int .i64 f, .int .i64 t, .int .i64 o, .int .i64 li, .int .i64 nu, .int .i64 tu, .slice (some ⟨S, 0, none⟩) (l.length + 2) c] 26)).alloc (.cells #[.int .i64 0, .int .i64 0, .int .i64 0, .int .i64 0, .int .i64 0, .int .i64 0, .slice none 0 0] 26)).alloc (.cells #[.int .i64 f, .int .i64 t, .int .i64 o, .int .i64 li, .int .i64 nu, .int .i64 tu, .slice (some ⟨S, 0, none⟩) l.length c] 26)) := by (repeat (first | exact Ext.refl _ | apply Ext.drew_left | apply Ext.drew | apply Ext.alloc))
  have HBR := hid_mk (BR.ext (show Ext _ (((w.alloc (.cells #[.int .i64 f, .int .i64 t, .int .i64 o, .int .i64 li, .int .i64 nu, .int .i64 tu, .slice (some ⟨S, 0, none⟩) (l.length + 2) c] 26)).alloc (.cells #[.int .i64 0, .int .i64 0, .int .i64 0, .int .i64 0, .int .i64 0, .int .i64 0, .slice none 0 0] 26)).alloc (.cells #[.int .i64 f, .int .i64 t, .int .i64 o, .int .i64 li, .int .i64 nu, .int .i64 tu, .slice (some ⟨S, 0, none⟩) l.length c] 26)) by (repeat (first | exact Ext.refl _ | apply Ext.drew_left | apply Ext.drew | apply Ext.alloc))))
  have HBH := hid_mk BH
  have HX0 := hid_mk hx0
  clear BR BH hx0
  generalize (((w.alloc (.cells #[.int .i64 f, .int .i64 t, .int .i64 o, .int .i64 li, .int .i64 nu, .int .i64 tu, .slice (some ⟨S, 0, none⟩) (l.length + 2) c] 26)).alloc (.cells #[.int .i64 0, .int .i64 0, .int .i64 0, .int .i64 0, .int .i64 0, .int .i64 0, .slice none 0 0] 26)).alloc (.cells #[.int .i64 f, .int .i64 t, .int .i64 o, .int .i64 li, .int .i64 nu, .int .i64 tu, .slice (some ⟨S, 0, none⟩) l.length c] 26)) = W0 at *
  go_loopw [5] (fun i wr => ∃ k : Nat, k ≤ l.length ∧ i = .int .i64 k ∧ LentAt B M wr S c k l ∧ BoxF wr (w.heap.size + 1) 0 0 0 0 0 0 (.slice none 0 0) ∧ BoxF wr (w.heap.size + 1 + 1) f t o li nu tu (.slice (some ⟨S, 0, none⟩) l.length c) ∧ w.grownBy wr (some S)) (fun i _ => l.length - (intOf i).toNat)
  case atStart => exact ⟨0, Nat.zero_le _, rfl, HL.out.ext HX0.out, HBR.out, HBH.out, grown_of_ext HX0.out _⟩
  case round =>
    clear HBR HBH HX0
    obtain ⟨k, hk, rfl, hA, hR, hH, hg⟩ := hrel
    have HA := hid_mk hA
    have HR := hid_mk hR
    have HH := hid_mk hH
    have HG := hid_mk hg
    have hRl := hR.lt
    have hHl := hH.lt
    clear hA hR hH hg
    by_cases hlt : k < l.length
    · obtain ⟨E, ce, h1, h2, h3, h4, h5, h6⟩ := HA.out.parts k hlt
      rw [if_neg (Nat.lt_irrefl _)] at h4
      have c7 := h4.c7
      have HST := hid_mk (HA.out.step hlt c7)
      have hmk := HME.out l[k] (List.getElem_mem hlt)
      clear h4 h6
      generalize l[k].ents.length = m at *
      have hwm : IntKind.i64.wrap (m : Int) = (m : Int) := wrapN _ (by omega)
      have hm1 : (m : Int) ≤ (ce : Int) := by omega
      have hm2 : m ≤ ce := by omega
      have hm3 : (0 : Int) ≤ (m : Int) := by omega
      have hk1 : (k : Int) < (l.length : Int) := by omega
      have hSr := cell_lt c7
      go_wp2
      go_roundw
      case rel =>
        refine ⟨k + 1, by omega, by go_num, HST.out, HR.out.grown (grown_set _ _ _ _) (by simp; omega), HH.out.grown (grown_set _ _ _ _) (by simp; omega), ?_⟩
        have hgs := HG.out
        exact ⟨hgs.os, hgs.tape, hgs.output, Nat.le_trans hgs.size (grown_set _ _ _ _).size, fun b hb hne => ((grown_set _ _ _ _).block b (Nat.lt_of_lt_of_le hb hgs.size) hne).trans (hgs.block b hb hne)⟩
      case measure => simp [intOf]; omega
    · have e : k = l.length := by omega
      subst e
      obtain ⟨b0, b1, b2, b3, b4, b5, b6, -, -, -, -, -, -, -⟩ := HH.out.at
      obtain ⟨r0, r1, r2, r3, r4, r5, r6, q0, q1, q2, q3, q4, q5, q6⟩ := HR.out.at
      go_wp2
      refine bodyPost_ret (v := .agg #[.int .i64 f, .int .i64 t, .int .i64 o, .int .i64 li, .int .i64 nu, .int .i64 tu, .slice (some ⟨S, 0, none⟩) l.length c]) (by unfold results; rw [Try.results24]; go_simp) rfl ⟨rfl, ?_, ?_⟩
      · have hR : M ≤ w.heap.size + 1 := by omega
        exact ((((((HA.out.setB hR).setB hR).setB hR).setB hR).setB hR).setB hR).setB hR
      · have hgs := HG.out
        have key : ∀ (W : World) (j : Nat) (u : Value), w.grownBy W (some S) → w.grownBy (W.setCell ⟨w.heap.size + 1, j, none⟩ u) (some S) := fun W j u h =>
          ⟨h.os, h.tape, h.output, Nat.le_trans h.size (grown_set _ _ _ _).size, fun b hb hne => ((grown_set W (w.heap.size + 1) j u).block b (Nat.lt_of_lt_of_le hb h.size) (by simp; omega)).trans (h.block b hb hne)⟩
        exact key _ _ _ (key _ _ _ (key _ _ _ (key _ _ _ (key _ _ _ (key _ _ _ (key _ _ _ hgs))))))

theorem still_any (B M : Nat) (f t o li nu tu : Int) (l : List Prt) (S c : Nat) (sv : Value) (w : World) (hL : LentAt B M w S c l.length l) (hs : PrtSl w sv l) (hm : l.length ≤ 536870912) (hme : ∀ p ∈ l, p.ents.length ≤ 536870912) :
    Calls Try.prog 31 #[.agg #[.int .i64 f, .int .i64 t, .int .i64 o, .int .i64 li, .int .i64 nu, .int .i64 tu, .slice (some ⟨S, 0, none⟩) (l.length + 2) c], .agg #[.int .i64 f, .int .i64 t, .int .i64 o, .int .i64 li, .int .i64 nu, .int .i64 tu, sv]] w
      fun e w' => e = .returned (.bool true) ∧ Ext w w' := by
  have HL := hid_mk hL
  have HME := hid_mk hme
  have HS := hid_mk hs
  have hcap := hL.cap
  obtain ⟨a, cs, rfl, -, -, -⟩ := hs
  have m7 := hL.m77
  have m8 := hL.m78
  have hSl := cell_lt m7
  clear hL hme
  go_enter Try.func31, Try.ntmps31
  have hwn : IntKind.i64.wrap (l.length : Int) = (l.length : Int) := wrapN _ (by omega)
  have hwn1 : IntKind.i64.wrap ((l.length : Int) + 1) = (l.length : Int) + 1 := wrapZ _ (by omega)
  have hc1 : l.length ≤ c := by omega
  have hc2 : (0 : Int) ≤ (l.length : Int) := by omega
  have hc3 : (l.length : Int) ≤ (c : Int) := by omega
  have hc4 : (l.length : Int) < (l.length : Int) + 2 := by omega
  have hc5 : (l.length : Int) + 1 < (l.length : Int) + 2 := by omega
  have hc6 : (0 : Int) ≤ (l.length : Int) + 1 := by omega
  go_wp2
  have hx0 : Ext w ((w.alloc (.cells #[.int .i64 f, .int .i64 t, .int .i64 o, .int .i64 li, .int .i64 nu, .int .i64 tu, .slice (some ⟨S, 0, none⟩) (l.length + 2) c] 26)).alloc (.cells #[.int .i64 f, .int .i64 t, .int .i64 o, .int .i64 li, .int .i64 nu, .int .i64 tu, .slice a l.length cs] 26)) := by (repeat (first | exact Ext.refl _ | apply Ext.drew_left | apply Ext.drew | apply Ext.alloc))
  have BG : BoxF ((w.alloc (.cells #[.int .i64 f, .int .i64 t, .int .i64 o, .int .i64 li, .int .i64 nu, .int .i64 tu, .slice (some ⟨S, 0, none⟩) (l.length + 2) c] 26)).alloc (.cells #[.int .i64 f, .int .i64 t, .int .i64 o, .int .i64 li, .int .i64 nu, .int .i64 tu, .slice a l.length cs] 26)) w.heap.size f t o li nu tu (.slice (some ⟨S, 0, none⟩) (l.length + 2) c) := (BoxF.new w f t o li nu tu _).ext (by (repeat (first | exact Ext.refl _ | apply Ext.drew_left | apply Ext.drew | apply Ext.alloc)))
  have BF : BoxF ((w.alloc (.cells #[.int .i64 f, .int .i64 t, .int .i64 o, .int .i64 li, .int .i64 nu, .int .i64 tu, .slice (some ⟨S, 0, none⟩) (l.length + 2) c] 26)).alloc (.cells #[.int .i64 f, .int .i64 t, .int .i64 o, .int .i64 li, .int .i64 nu, .int .i64 tu, .slice a l.length cs] 26)) (w.heap.size + 1) f t o li nu tu (.slice a l.length cs) := by
    have h := BoxF.new (w.alloc (.cells #[.int .i64 f, .int .i64 t, .int .i64 o, .int .i64 li, .int .i64 nu, .int .i64 tu, .slice (some ⟨S, 0, none⟩) (l.length + 2) c] 26)) f t o li nu tu (.slice a l.length cs)
    rwa [World.size_alloc] at h
  generalize ((w.alloc (.cells #[.int .i64 f, .int .i64 t, .int .i64 o, .int .i64 li, .int .i64 nu, .int .i64 tu, .slice (some ⟨S, 0, none⟩) (l.length + 2) c] 26)).alloc (.cells #[.int .i64 f, .int .i64 t, .int .i64 o, .int .i64 li, .int .i64 nu, .int .i64 tu, .slice a l.length cs] 26)) = W0 at *
  have HX0 := hid_mk hx0
  have HBG := hid_mk BG
  have HBF := hid_mk BF
  have HL0 := hid_mk (HL.out.ext hx0)
  have HS0 := hid_mk (HS.out.ext hx0)
  clear hx0 BG BF m7 m8
  have g6 := HBG.out.at.c6
  have hgl := cell_lt g6
  go_loop [6] (fun i => ∃ k : Nat, k ≤ l.length ∧ i = .int .i64 k) (fun i => l.length - (intOf i).toNat)
  case atStart => exact ⟨0, Nat.zero_le _, rfl⟩
  case round =>
    obtain ⟨k, hk, rfl⟩ := hrel
    by_cases hlt : k < l.length
    · obtain ⟨E, ce, h1, h2, h3, h4, h5, h6⟩ := HL0.out.parts k hlt
      rw [if_pos hlt] at h4
      have c7 := h4.c7
      have k1 := (h6 l[k].ents.length (by rw [List.length_append]; simp [marks])).c0
      have k2 := (h6 (l[k].ents.length + 1) (by rw [List.length_append]; simp [marks])).c0
      rw [List.getElem_append_right (Nat.le_refl _)] at k1
      rw [List.getElem_append_right (by omega)] at k2
      simp only [Nat.sub_self, Nat.add_sub_cancel_left, marks, entMark, entBehind, List.getElem_cons_zero, List.getElem_cons_succ] at k1 k2
      have hmk := HME.out l[k] (List.getElem_mem hlt)
      clear h4 h6
      generalize l[k].ents.length = m at *
      have hwm : IntKind.i64.wrap ((m : Int) + 2) = (m : Int) + 2 := wrapZ _ (by omega)
      have hwm1 : IntKind.i64.wrap ((m : Int) + 1) = (m : Int) + 1 := wrapZ _ (by omega)
      have hm1 : (m : Int) + 2 ≤ (ce : Int) := by omega
      have hm3 : (0 : Int) ≤ (m : Int) + 2 := by omega
      have hm4 : (m : Int) < (m : Int) + 2 := by omega
      have hm5 : (m : Int) + 1 < (m : Int) + 2 := by omega
      have hm6 : (0 : Int) ≤ (m : Int) + 1 := by omega
      have hk1 : (k : Int) < (l.length : Int) := by omega
      have hk2 : (k : Int) < (l.length : Int) + 2 := by omega
      have hSr := cell_lt c7
      have hEr := cell_lt k1
      go_wp2
      go_round
      case rel => exact ⟨k + 1, by omega, by go_num⟩
      case measure => simp [intOf]; omega
    · have e : k = l.length := by omega
      subst e
      obtain ⟨b0, b1, b2, b3, b4, b5, b6, -, -, -, -, -, -, -⟩ := HBG.out.at
      obtain ⟨f0, f1, f2, f3, f4, f5, f6, -, -, -, -, -, -, -⟩ := HBF.out.at
      have hfl := cell_lt f0
      go_wp2_with fail
      refine (rSame_any f t o li nu tu f t o li nu tu l l _ _ _ ((HL0.out.sl (by omega) (fun p hp => by have := HME.out p hp; omega)).ext (by (repeat (first | exact Ext.refl _ | apply Ext.drew_left | apply Ext.drew | apply Ext.alloc)))) (HS0.out.ext (by (repeat (first | exact Ext.refl _ | apply Ext.drew_left | apply Ext.drew | apply Ext.alloc))))).mono ?_
      rintro e w3 ⟨rfl, hx3⟩
      rw [sameF_eq, sameP_eq rfl]
      have HX3 := hid_mk (Ext.trans _ _ _ (Ext.trans _ _ _ HX0.out (show Ext W0 _ by (repeat (first | exact Ext.refl _ | apply Ext.drew_left | apply Ext.drew | apply Ext.alloc)))) hx3)
      go_wp2
      go_ret
      exact ⟨rfl, HX3.out⟩
end Go.Proofs.Ytgglbohcnlcagaa
