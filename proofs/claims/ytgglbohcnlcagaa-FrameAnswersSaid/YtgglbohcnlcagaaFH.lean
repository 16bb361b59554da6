/- A frame, cloned. -/
import Derived.Test.YtgglbohcnlcagaaFG
namespace Go.Proofs.Ytgglbohcnlcagaa
open Go.RowKit
set_option maxHeartbeats 4000000
set_option maxRecDepth 100000
set_option linter.unusedSimpArgs false
set_option linter.unusedVariables false
theorem en_fClone : Enters Try.prog 25 := ⟨_, Try.func25, by kernel_rfl, rfl⟩

/-- The entries' memory, if there is any, is not that block. -/
def EntOff (S : Nat) (ev : Value) : Prop := ∀ b o n c, ev = .slice (some ⟨b, o, none⟩) n c → 0 < n → b ≠ S
theorem cell_set_ne {w : World} {S j b o : Nat} {u : Value} (h : b ≠ S) : (w.setCell ⟨S, j, none⟩ u).cell? ⟨b, o, none⟩ = w.cell? ⟨b, o, none⟩ := by
  go_simp
theorem cell_set_ne2 {w : World} {S j b o : Nat} {u : Value} (h : o ≠ j) : (w.setCell ⟨S, j, none⟩ u).cell? ⟨b, o, none⟩ = w.cell? ⟨b, o, none⟩ := by
  go_simp
theorem EntAt.set {w : World} {S j b o : Nat} {u : Value} {e : Ent} (h : EntAt w b o e) (hb : b ≠ S) : EntAt (w.setCell ⟨S, j, none⟩ u) b o e :=
  ⟨(cell_set_ne hb).trans h.c0, (cell_set_ne hb).trans h.c1, (cell_set_ne hb).trans h.c2, (cell_set_ne hb).trans h.c3, (cell_set_ne hb).trans h.c4⟩
theorem EntSl.set {w : World} {S j : Nat} {u ev : Value} {l : List Ent} (h : EntSl w ev l) (ho : EntOff S ev) : EntSl (w.setCell ⟨S, j, none⟩ u) ev l := by
  obtain ⟨a, c, rfl, h2, h3, h4⟩ := h
  refine ⟨a, c, rfl, h2, h3, fun hp => ?_⟩
  obtain ⟨b, o, rfl, h6⟩ := h4 hp
  exact ⟨b, o, rfl, fun i hi => (h6 i hi).set (ho b o _ _ rfl hp)⟩
theorem EntSl.off {w : World} {S : Nat} {ev : Value} {l : List Ent} (h : EntSl w ev l) (hS : w.heap.size ≤ S) : EntOff S ev := by
  obtain ⟨a, c, rfl, h2, h3, h4⟩ := h
  intro b o n c' e hn hb
  cases e
  obtain ⟨b', o', e', h6⟩ := h4 hn
  cases e'
  have := cell_lt (h6 0 hn).c0
  omega
theorem PrtAt.set {w : World} {S i j : Nat} {u ev : Value} {p : Prt} (h : PrtAt w S (i * 8) ev p) (hij : i ≠ j) (ho : EntOff S ev) : PrtAt (w.setCell ⟨S, j * 8 + 7, none⟩ u) S (i * 8) ev p :=
  ⟨(cell_set_ne2 (by omega)).trans h.c0, (cell_set_ne2 (by omega)).trans h.c1, (cell_set_ne2 (by omega)).trans h.c2, (cell_set_ne2 (by omega)).trans h.c3, (cell_set_ne2 (by omega)).trans h.c4,
   (cell_set_ne2 (by omega)).trans h.c5, (cell_set_ne2 (by omega)).trans h.c6, (cell_set_ne2 (by omega)).trans h.c7, h.es.set ho⟩
theorem PrtAt.setB {w : World} {S b o j : Nat} {u ev : Value} {p : Prt} (h : PrtAt w b o ev p) (hb : b ≠ S) (ho : EntOff S ev) : PrtAt (w.setCell ⟨S, j, none⟩ u) b o ev p :=
  ⟨(cell_set_ne hb).trans h.c0, (cell_set_ne hb).trans h.c1, (cell_set_ne hb).trans h.c2, (cell_set_ne hb).trans h.c3, (cell_set_ne hb).trans h.c4,
   (cell_set_ne hb).trans h.c5, (cell_set_ne hb).trans h.c6, (cell_set_ne hb).trans h.c7, h.es.set ho⟩
theorem off_new {wr : World} {a9 : Option Addr} {n c9 R : Nat} {P : Nat → Prop} (h92 : 0 < n → ∃ S, a9 = some ⟨S, 0, none⟩ ∧ wr.drew.heap.size ≤ S ∧ P S) (hR : R < wr.heap.size) : EntOff R (.slice a9 n c9) := by
  intro b o n' c e hn hb
  cases e
  obtain ⟨S9, e, hS9', -⟩ := h92 hn
  cases e
  have : wr.heap.size ≤ b := by simpa using hS9'
  omega
/-- A frame's seven cells, and that they may be written. -/
structure FrmAt (w : World) (b : Nat) (f t o li nu tu : Int) (sv : Value) : Prop where
  c0 : w.cell? ⟨b, 0, none⟩ = some (.int .i64 f)
  c1 : w.cell? ⟨b, 1, none⟩ = some (.int .i64 t)
  c2 : w.cell? ⟨b, 2, none⟩ = some (.int .i64 o)
  c3 : w.cell? ⟨b, 3, none⟩ = some (.int .i64 li)
  c4 : w.cell? ⟨b, 4, none⟩ = some (.int .i64 nu)
  c5 : w.cell? ⟨b, 5, none⟩ = some (.int .i64 tu)
  c6 : w.cell? ⟨b, 6, none⟩ = some sv
  q0 : w.frozen? ⟨b, 0, none⟩ = false
  q1 : w.frozen? ⟨b, 1, none⟩ = false
  q2 : w.frozen? ⟨b, 2, none⟩ = false
  q3 : w.frozen? ⟨b, 3, none⟩ = false
  q4 : w.frozen? ⟨b, 4, none⟩ = false
  q5 : w.frozen? ⟨b, 5, none⟩ = false
  q6 : w.frozen? ⟨b, 6, none⟩ = false
theorem frozen_ext' {w w' : World} (hx : Ext w w') {b o : Nat} (hb : b < w.heap.size) (h : w.frozen? ⟨b, o, none⟩ = false) : w'.frozen? ⟨b, o, none⟩ = false := by rw [hx.hf b o hb]; exact h
theorem FrmAt.ext {w w' : World} {b : Nat} {f t o li nu tu : Int} {sv : Value} (h : FrmAt w b f t o li nu tu sv) (hx : Ext w w') : FrmAt w' b f t o li nu tu sv :=
  have hb := cell_lt h.c0
  ⟨cell_ext hx h.c0, cell_ext hx h.c1, cell_ext hx h.c2, cell_ext hx h.c3, cell_ext hx h.c4, cell_ext hx h.c5, cell_ext hx h.c6,
   frozen_ext' hx hb h.q0, frozen_ext' hx hb h.q1, frozen_ext' hx hb h.q2, frozen_ext' hx hb h.q3, frozen_ext' hx hb h.q4, frozen_ext' hx hb h.q5, frozen_ext' hx hb h.q6⟩
theorem frozen_set {w : World} {S j b o : Nat} {u : Value} (h : w.frozen? ⟨b, o, none⟩ = false) : (w.setCell ⟨S, j, none⟩ u).frozen? ⟨b, o, none⟩ = false := by
  go_simp
theorem cell_set_eq {w : World} {b o : Nat} {u v : Value} (h : w.cell? ⟨b, o, none⟩ = some v) : (w.setCell ⟨b, o, none⟩ u).cell? ⟨b, o, none⟩ = some u := by
  have hb := cell_lt h
  go_simp
theorem Ext.setD {w w' : World} (h : Ext w w') {b o : Nat} {u : Value} (hp : w.heap.size ≤ b) : Ext w (w'.setCell ⟨b, o, none⟩ u) := Ext.of (Below.setCell h.below hp u)
theorem FrmAt.set {w : World} {S j b : Nat} {u : Value} {f t o li nu tu : Int} {sv : Value} (h : FrmAt w b f t o li nu tu sv) (hb : b ≠ S) : FrmAt (w.setCell ⟨S, j, none⟩ u) b f t o li nu tu sv :=
  ⟨(cell_set_ne hb).trans h.c0, (cell_set_ne hb).trans h.c1, (cell_set_ne hb).trans h.c2, (cell_set_ne hb).trans h.c3, (cell_set_ne hb).trans h.c4, (cell_set_ne hb).trans h.c5, (cell_set_ne hb).trans h.c6,
   frozen_set h.q0, frozen_set h.q1, frozen_set h.q2, frozen_set h.q3, frozen_set h.q4, frozen_set h.q5, frozen_set h.q6⟩

/-- The entries' memory, if there is any, is not older than that. -/
def EntFrom (B : Nat) (ev : Value) : Prop := ∀ b o n c, ev = .slice (some ⟨b, o, none⟩) n c → 0 < n → B ≤ b
theorem EntFrom.off {B R : Nat} {ev : Value} (h : EntFrom B ev) (hR : R < B) : EntOff R ev := fun b o n c e hn hb => by have := h b o n c e hn; omega
theorem from_new {wr : World} {a9 : Option Addr} {n c9 B : Nat} {P : Nat → Prop} (h92 : 0 < n → ∃ S, a9 = some ⟨S, 0, none⟩ ∧ wr.drew.heap.size ≤ S ∧ P S) (hB : B ≤ wr.heap.size) : EntFrom B (.slice a9 n c9) := by
  intro b o n' c' e hn
  cases e
  obtain ⟨S9, e, hS9', -⟩ := h92 hn
  cases e
  have : wr.heap.size ≤ b := by simpa using hS9'
  omega
/-- Parts and entries in memory that is not older than that. -/
def PrtOwn (B : Nat) (w : World) (v : Value) (l : List Prt) : Prop :=
  ∃ a c, v = .slice a l.length c ∧ l.length ≤ c ∧ l.length ≤ 4611686018427387904 ∧ Shp B w 41 8 (.slice a l.length c) ∧ (0 < l.length → ∃ S, a = some ⟨S, 0, none⟩ ∧ B ≤ S ∧ ∀ i, (h : i < l.length) → ∃ ev, PrtAt w S (i * 8) ev l[i] ∧ EntFrom B ev ∧ Shp B w 45 5 ev)
theorem PrtOwn.sl {B : Nat} {w : World} {v : Value} {l : List Prt} (h : PrtOwn B w v l) : PrtSl w v l := by
  obtain ⟨a, c, h1, h2, h3, _, h4⟩ := h
  refine ⟨a, c, h1, h2, h3, fun hp => ?_⟩
  obtain ⟨S, h5, _, h6⟩ := h4 hp
  exact ⟨S, 0, h5, fun i hi => by obtain ⟨ev, h7, _⟩ := h6 i hi; exact ⟨ev, by rw [Nat.zero_add]; exact h7⟩⟩
theorem PrtOwn.ext {B : Nat} {w w' : World} {v : Value} {l : List Prt} (h : PrtOwn B w v l) (hx : Ext w w') : PrtOwn B w' v l := by
  obtain ⟨a, c, h1, h2, h3, hs, h4⟩ := h
  refine ⟨a, c, h1, h2, h3, hs.ext hx, fun hp => ?_⟩
  obtain ⟨S, h5, h8, h6⟩ := h4 hp
  exact ⟨S, h5, h8, fun i hi => by obtain ⟨ev, h7, h9, h10⟩ := h6 i hi; exact ⟨ev, h7.ext hx, h9, h10.ext hx⟩⟩
theorem PrtOwn.mono {B B' : Nat} {w : World} {v : Value} {l : List Prt} (h : PrtOwn B w v l) (hB : B' ≤ B) : PrtOwn B' w v l := by
  obtain ⟨a, c, h1, h2, h3, hs, h4⟩ := h
  refine ⟨a, c, h1, h2, h3, hs.mono hB, fun hp => ?_⟩
  obtain ⟨S, h5, h8, h6⟩ := h4 hp
  exact ⟨S, h5, by omega, fun i hi => by obtain ⟨ev, h7, h9, h10⟩ := h6 i hi; exact ⟨ev, h7, fun b o n c e hn => Nat.le_trans hB (h9 b o n c e hn), h10.mono hB⟩⟩
theorem PrtOwn.set {B R j : Nat} {w : World} {u v : Value} {l : List Prt} (h : PrtOwn B w v l) (hR : R < B) : PrtOwn B (w.setCell ⟨R, j, none⟩ u) v l := by
  obtain ⟨a, c, h1, h2, h3, hs, h4⟩ := h
  refine ⟨a, c, h1, h2, h3, hs.set, fun hp => ?_⟩
  obtain ⟨S, h5, h8, h6⟩ := h4 hp
  exact ⟨S, h5, h8, fun i hi => by obtain ⟨ev, h7, h9, h10⟩ := h6 i hi; exact ⟨ev, h7.setB (by omega) (h9.off hR), h9, h10.set⟩⟩
/-- Parts in a block of one's own; those behind the first k still have their old entries. -/
def PrtInv (w0 wr : World) (S : Nat) (l : List Prt) (k : Nat) : Prop :=
  ∀ i, (h : i < l.length) → ∃ ev, PrtAt wr S (i * 8) ev l[i] ∧ EntOff S ev ∧ wr.frozen? ⟨S, i * 8 + 7, none⟩ = false ∧ EntOff (w0.heap.size + 1) ev ∧ (i < k → EntFrom w0.heap.size ev ∧ Shp w0.heap.size wr 45 5 ev)

theorem fClone_any (f t o li nu tu : Int) (l : List Prt) (sv : Value) (w : World) (hs : PrtSl w sv l) (hm : l.length ≤ 1073741824) (hme : ∀ p ∈ l, p.ents.length ≤ 1073741824) :
    Calls Try.prog 25 #[.agg #[.int .i64 f, .int .i64 t, .int .i64 o, .int .i64 li, .int .i64 nu, .int .i64 tu, sv]] w
      fun e w' => ∃ sv', e = .returned (.agg #[.int .i64 f, .int .i64 t, .int .i64 o, .int .i64 li, .int .i64 nu, .int .i64 tu, sv']) ∧ PrtOwn w.heap.size w' sv' l ∧ Ext w w' := by
  have HS := hid_mk hs
  have HME := hid_mk hme
  obtain ⟨a, c, rfl, hlc, hl63, -⟩ := hs
  clear hme
  go_enter Try.func25, Try.ntmps25
  go_wp2_with fail
  refine (clonePart_any l _ _ _ (HS.out.ext (by (repeat (first | exact Ext.refl _ | apply Ext.drew_left | apply Ext.drew | apply Ext.alloc)))) hm).mono ?_
  rintro e w1 ⟨a', c', rfl, hlc', hx1, hsh1, hS⟩
  have HB : FrmAt w1 w.heap.size f t o li nu tu (.slice a l.length c) := FrmAt.ext (w := (w.alloc _).alloc _) ⟨by go_simp, by go_simp, by go_simp, by go_simp, by go_simp, by go_simp, by go_simp, by go_simp, by go_simp, by go_simp, by go_simp, by go_simp, by go_simp, by go_simp⟩ hx1
  have HR : FrmAt w1 (w.heap.size + 1) 0 0 0 0 0 0 (.slice none 0 0) := FrmAt.ext (w := (w.alloc _).alloc _) ⟨by go_simp, by go_simp, by go_simp, by go_simp, by go_simp, by go_simp, by go_simp, by go_simp, by go_simp, by go_simp, by go_simp, by go_simp, by go_simp, by go_simp⟩ hx1
  have HX1 := hid_mk (show Ext w w1 from Ext.trans _ _ _ (by (repeat (first | exact Ext.refl _ | apply Ext.drew_left | apply Ext.drew | apply Ext.alloc))) hx1)
  have hszB := cell_lt HB.c0
  have hszR := cell_lt HR.c0
  have HB' := hid_mk HB
  have HR' := hid_mk HR
  clear HR
  have HSS := hid_mk hS
  clear hS
  obtain ⟨b0, b1, b2, b3, b4, b5, b6, -, -, -, -, -, -, p6⟩ := HB
  go_wp2
  go_loopw [3, 11] (fun i3 i wr => ∃ k : Nat, k ≤ l.length ∧ i = .int .i64 k ∧ FrmAt wr w.heap.size f t o li nu tu (.slice a' l.length c') ∧ FrmAt wr (w.heap.size + 1) 0 0 0 0 0 0 (.slice none 0 0) ∧ Ext w wr ∧ Shp w.heap.size wr 41 8 (.slice a' l.length c') ∧ (0 < l.length → ∃ S, a' = some ⟨S, 0, none⟩ ∧ w.heap.size + 2 ≤ S ∧ PrtInv w wr S l k)) (fun _ i _ => l.length - (intOf i).toNat)
  case atStart =>
    refine ⟨0, Nat.zero_le _, rfl, ?_, HR'.out.set (by omega), Ext.setD HX1.out (Nat.le_refl _), (Shp.mono hsh1 (by simp; omega)).set, fun hp => ?_⟩
    · have hb := HB'.out
      exact ⟨(cell_set_ne2 (by omega)).trans hb.c0, (cell_set_ne2 (by omega)).trans hb.c1, (cell_set_ne2 (by omega)).trans hb.c2, (cell_set_ne2 (by omega)).trans hb.c3, (cell_set_ne2 (by omega)).trans hb.c4, (cell_set_ne2 (by omega)).trans hb.c5, cell_set_eq hb.c6,
        frozen_set hb.q0, frozen_set hb.q1, frozen_set hb.q2, frozen_set hb.q3, frozen_set hb.q4, frozen_set hb.q5, frozen_set hb.q6⟩
    · obtain ⟨S, b, o, rfl, rfl, hS1, hS2⟩ := HSS.out hp
      obtain ⟨_, _, e, -, -, hcl⟩ := HS.out
      cases e
      obtain ⟨b', o', e, hcl⟩ := hcl hp
      cases e
      have hS3 : w.heap.size + 2 ≤ S := by simpa using hS1
      refine ⟨S, rfl, hS3, fun i hi => ?_⟩
      obtain ⟨ev, hA⟩ := hcl i hi
      obtain ⟨k1, k3⟩ := hS2 i hi ev (hA.ext (by (repeat (first | exact Ext.refl _ | apply Ext.drew_left | apply Ext.drew | apply Ext.alloc))))
      exact ⟨ev, k1.setB (by omega) (hA.es.off (Nat.le_refl _)), hA.es.off (by omega), frozen_set k3, hA.es.off (by omega), fun h => absurd h (Nat.not_lt_zero _)⟩
  case round =>
    clear b0 b1 b2 b3 b4 b5 b6 p6 hszB hszR
    obtain ⟨k, hk, rfl, hB, hR, hx, hsh, hP⟩ := hrel
    have HSH := hid_mk hsh
    clear hsh
    have HBk := hid_mk hB
    have HRk := hid_mk hR
    have HX := hid_mk hx
    have HP := hid_mk hP
    have hszB := cell_lt hB.c0
    have hszR := cell_lt hR.c0
    by_cases hlt : k < l.length
    · obtain ⟨b0, b1, b2, b3, b4, b5, b6, -, -, -, -, -, -, -⟩ := hB
      clear hR hx hP
      obtain ⟨S, rfl, hS, hI⟩ := HP.out (by omega)
      obtain ⟨ev, hA, hoff, hfz, -⟩ := hI k hlt
      have HI := hid_mk hI
      have HA := hid_mk hA
      have HMK := hid_mk (HME.out l[k] (List.getElem_mem hlt))
      obtain ⟨ea, ec, rfl, -⟩ := hA.es
      have a7 := hA.c7
      have hSl := cell_lt a7
      have hk1 : (k : Int) < (l.length : Int) := by omega
      have hk0 : (0 : Int) ≤ (k : Int) := by omega
      clear hA hI hoff
      go_wp2_with fail
      refine wp_region_held_below (fun i => i != 12) (.quiet 0 (.quiet 1 (.quiet 2 (.quiet 3 (.quiet 4 (.quiet 5 (.quiet 6 (.quiet 7 (.quiet 8 (.alt 9 (.alt 10 (.quiet 11 (.alt 12 .done .stop)) .stop) .stop)))))))))) (by kernel_rfl) (by kernel_rfl) (by intro c a w d v h; cases d <;> exact h) (fun ops HO => ?_)
      refine plan_read _ (hi_of HO rfl) rfl (fun w' hE => by (first | replace hE := Ext.unD hE | skip); have hcE := hE.hc; clear hE; go_simp; rfl) ?_
      simp only [Act.put, List.setIfInBounds_toArray, List.set_cons_succ, List.set_cons_zero]
      refine plan_read _ (hi_of HO rfl) rfl (fun w' hE => by (first | replace hE := Ext.unD hE | skip); have hcE := hE.hc; clear hE; go_simp; rfl) ?_
      simp only [Act.put, List.setIfInBounds_toArray, List.set_cons_succ, List.set_cons_zero]
      refine plan_read _ (hi_of HO rfl) rfl (fun w' hE => by (first | replace hE := Ext.unD hE | skip); have hcE := hE.hc; clear hE; go_simp; rfl) ?_
      simp only [Act.put, List.setIfInBounds_toArray, List.set_cons_succ, List.set_cons_zero]
      refine plan_read _ (hi_of HO rfl) rfl (fun w' hE => by (first | replace hE := Ext.unD hE | skip); have hcE := hE.hc; clear hE; go_simp; rfl) ?_
      simp only [Act.put, List.setIfInBounds_toArray, List.set_cons_succ, List.set_cons_zero]
      refine plan_read _ (hi_of HO rfl) rfl (fun w' hE => by (first | replace hE := Ext.unD hE | skip); have hcE := hE.hc; clear hE; go_simp; rfl) ?_
      simp only [Act.put, List.setIfInBounds_toArray, List.set_cons_succ, List.set_cons_zero]
      refine plan_read _ (hi_of HO rfl) rfl (fun w' hE => by (first | replace hE := Ext.unD hE | skip); have hcE := hE.hc; clear hE; go_simp; rfl) ?_
      simp only [Act.put, List.setIfInBounds_toArray, List.set_cons_succ, List.set_cons_zero]
      refine plan_read _ (hi_of HO rfl) rfl (fun w' hE => by (first | replace hE := Ext.unD hE | skip); have hcE := hE.hc; clear hE; go_simp; rfl) ?_
      simp only [Act.put, List.setIfInBounds_toArray, List.set_cons_succ, List.set_cons_zero]
      refine plan_read _ (hi_of HO rfl) rfl (fun w' hE => by (first | replace hE := Ext.unD hE | skip); have hcE := hE.hc; clear hE; go_simp; rfl) ?_
      simp only [Act.put, List.setIfInBounds_toArray, List.set_cons_succ, List.set_cons_zero]
      refine plan_read _ (hi_of HO rfl) rfl (fun w' hE => by (first | replace hE := Ext.unD hE | skip); have hcE := hE.hc; clear hE; go_simp; rfl) ?_
      simp only [Act.put, List.setIfInBounds_toArray, List.set_cons_succ, List.set_cons_zero]
      refine plan_call1 en_cloneEnt (hi_of HO rfl) rfl rfl (by go_simp; rfl) (by exact (cloneEnt_any l[k].ents _ _ (HA.out.es.ext (by (repeat (first | exact Ext.refl _ | apply Ext.drew_left | apply Ext.drew | apply Ext.alloc)))) HMK.out)) ?_
      rintro e v9 ⟨a9, c9, rfl, h91, hx9, hsh9, h92⟩
      refine ⟨_, rfl, fun _ => hx9, ?_⟩
      replace hx9 := Ext.unD hx9
      have HSH9 := hid_mk (show Shp w.heap.size v9 45 5 (.slice a9 l[k].ents.length c9) from hsh9.mono (by have := HX.out.below.size; simp; omega))
      clear hsh9
      have HOFF := hid_mk (show EntOff S (.slice a9 l[k].ents.length c9) ∧ EntOff (w.heap.size + 1) (.slice a9 l[k].ents.length c9) from ⟨off_new h92 hSl, off_new h92 hszR⟩)
      have HFROM := hid_mk (show EntFrom w.heap.size (.slice a9 l[k].ents.length c9) from from_new h92 HX.out.below.size)
      have a79 := cell_ext hx9 (show _ = _ from a7)
      have hfz9 := frozen_ext' hx9 (show _ < _ from hSl) hfz
      have hS9 := cell_lt a79
      simp only [Act.put, List.setIfInBounds_toArray, List.set_cons_succ, List.set_cons_zero]
      refine plan_loud1 (hi_of HO rfl) rfl ?_
      go_simp
      refine ⟨by (repeat (first | exact Ext.refl _ | apply Ext.drew_left | apply Ext.drew | apply Ext.alloc)), ?_⟩
      refine plan_read _ (hi_of HO rfl) rfl (fun w' hE => by (first | replace hE := Ext.unD hE | skip); have hcE := hE.hc; clear hE; go_simp; rfl) ?_
      simp only [Act.put, List.setIfInBounds_toArray, List.set_cons_succ, List.set_cons_zero]
      refine plan_loud1 (hi_of HO rfl) rfl ?_
      go_simp
      skip
      refine plan_done ?fin101
      go_wp2
      go_roundw
      case rel =>
        refine ⟨k + 1, by omega, by go_num, (HBk.out.ext hx9).set (by omega), (HRk.out.ext hx9).set (by omega), Ext.setD (Ext.trans _ _ _ HX.out hx9) (by omega), (HSH.out.ext hx9).set, fun _ => ⟨S, rfl, hS, fun i hi => ?_⟩⟩
        by_cases hik : i = k
        · subst hik
          have hA := HA.out.ext hx9
          have hoff9 := HOFF.out.1
          refine ⟨_, ⟨(cell_set_ne2 (by omega)).trans hA.c0, (cell_set_ne2 (by omega)).trans hA.c1, (cell_set_ne2 (by omega)).trans hA.c2, (cell_set_ne2 (by omega)).trans hA.c3, (cell_set_ne2 (by omega)).trans hA.c4,
            (cell_set_ne2 (by omega)).trans hA.c5, (cell_set_ne2 (by omega)).trans hA.c6, cell_set_eq hA.c7, EntSl.set ?_ hoff9⟩, hoff9, frozen_set hfz9, HOFF.out.2, fun _ => ⟨HFROM.out, HSH9.out.set⟩⟩
          refine ⟨a9, c9, rfl, h91, ?_, fun hp => ?_⟩
          · have := HMK.out; omega
          · obtain ⟨S9, rfl, -, hE⟩ := h92 hp
            exact ⟨S9, 0, rfl, fun j hj => by rw [Nat.zero_add]; exact hE j hj⟩
        · obtain ⟨ev, h1, h2, h3, h4, h5⟩ := HI.out i hi
          have hsl := cell_lt h1.c0
          exact ⟨ev, (h1.ext hx9).set hik h2, h2, frozen_set (frozen_ext' hx9 hsl h3), h4, fun h => ⟨(h5 (by omega)).1, ((h5 (by omega)).2.ext hx9).set⟩⟩
      case measure => simp [intOf]; omega
    · have e : k = l.length := by omega
      subst e
      obtain ⟨b0, b1, b2, b3, b4, b5, b6, -, -, -, -, -, -, -⟩ := hB
      obtain ⟨r0, r1, r2, r3, r4, r5, r6, q0, q1, q2, q3, q4, q5, q6⟩ := hR
      clear hx hP hm
      go_wp2
      refine bodyPost_ret (v := .agg #[.int .i64 f, .int .i64 t, .int .i64 o, .int .i64 li, .int .i64 nu, .int .i64 tu, .slice a' l.length c']) (by unfold results; rw [Try.results25]; go_simp) rfl ⟨_, rfl, ?_, ?_⟩
      · refine ⟨_, _, rfl, hlc', hl63, ?_, fun hp => ?_⟩
        · have h := HSH.out
          exact h.set.set.set.set.set.set.set
        obtain ⟨S, rfl, hS, hI⟩ := HP.out hp
        refine ⟨S, rfl, by omega, fun i hi => ?_⟩
        obtain ⟨ev, h1, -, -, h4, h5⟩ := hI i hi
        have hne : S ≠ w.heap.size + 1 := by omega
        exact ⟨ev, ((((((h1.setB hne h4).setB hne h4).setB hne h4).setB hne h4).setB hne h4).setB hne h4).setB hne h4, (h5 hi).1, (h5 hi).2.set.set.set.set.set.set.set⟩
      · iterate 7 (with_reducible refine Ext.setD ?_ (by omega))
        exact HX.out
end Go.Proofs.Ytgglbohcnlcagaa
