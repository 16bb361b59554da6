/- The world of a script: what is kept when one block of it is written. -/
import Derived.Test.YtgglbohcnlcagaaWF
namespace Go.Proofs.Ytgglbohcnlcagaa
open Go.RowKit
set_option maxHeartbeats 2000000
set_option maxRecDepth 100000
set_option linter.unusedSimpArgs false
set_option linter.unusedVariables false

def ptrs (l : List Nat) : List Value := l.map fun x => .pointer (some ⟨x, 0, none⟩)
def OwnP (w : World) (B : Nat) (ty : TypeId) (v : Value) (l : List Nat) : Prop := w.ownsRow B ty 1 v l.length (ptrs l)
theorem own_of_ptr {w : World} {g x B : Nat} {ty : TypeId} (h : PtrRow w g 1 ty [x]) (hB : B ≤ g) : OwnP w B ty (.slice (some ⟨g, 0, none⟩) 1 1) [x] := by
  obtain ⟨⟨cur, h1, h2⟩, _, h3⟩ := h
  have h4 := h3 0 (by simp)
  refine ⟨rfl, .inr ⟨g, 1, cur, rfl, hB, h1, by simp, by simp [maxLen], by omega, ?_⟩⟩
  simp [World.cell?, h1] at h4
  obtain ⟨l⟩ := cur
  match l, h2 with
  | [a], _ => simp at h4; simp [ptrs, h4]
theorem own_ptr_cell {w : World} {B : Nat} {ty : TypeId} {v : Value} {l : List Nat} (h : OwnP w B ty v l) (hp : 0 < l.length) :
    ∃ g c, v = .slice (some ⟨g, 0, none⟩) l.length c ∧ l.length ≤ c ∧ B ≤ g ∧ ∀ i, (hi : i < l.length) → w.cell? ⟨g, i, none⟩ = some (.pointer (some ⟨l[i], 0, none⟩)) := by
  obtain ⟨g, c, hv, hc⟩ := own_cell h hp
  rcases h.2 with ⟨h1, -⟩ | ⟨g', cap, cur, h1, h2, h3, h4, -⟩
  · rw [hv] at h1; cases h1
  · rw [hv] at h1; cases h1
    exact ⟨g, c, hv, h4, h2, fun i hi => hc i _ (by simp [ptrs, hi])⟩
theorem grown_of_xl {w w' : World} {b : Nat} (h : Xl [b] w w') : w.grownBy w' (some b) := ⟨h.os, h.tape, h.output, h.size, fun k hk hn => h.block k hk (by simp; rintro rfl; exact hn rfl)⟩
theorem own_xl {w w' : World} {B b : Nat} {ty : TypeId} {v : Value} {l : List Nat} (h : OwnP w B ty v l) (hx : Xl [b] w w') (hn : v.ownBlock ≠ some b) : OwnP w' B ty v l :=
  World.ownsRow.kept h (grown_of_xl hx) (.inr hn)

structure PrAt (w : World) (p : Pr) : Prop where
  mt : MTree w p.ta p.T
  rt : RTree w p.rb p.T.rows
  gd : Good p.T
  ri : RowsIn w p.rb p.g
theorem RowsIn.ext {w w' : World} {rb g : Nat} (h : RowsIn w rb g) (hx : Ext w w') : RowsIn w' rb g := by
  obtain ⟨a, n, c, h1, h2⟩ := h
  exact ⟨a, n, c, cell_ext hx h1, h2⟩
theorem PrAt.ext {w w' : World} {p : Pr} (h : PrAt w p) (hx : Ext w w') : PrAt w' p := ⟨h.mt.ext hx, h.rt.ext hx, h.gd, h.ri.ext hx⟩
theorem PrAt.tc {w : World} {p : Pr} (h : PrAt w p) : w.cell? ⟨p.ta, 0, none⟩ = some (.int .u64 1) := by
  obtain ⟨pv, h1, -⟩ := h.mt.tr
  exact h1.at_.c0
theorem PrAt.rc {w : World} {p : Pr} (h : PrAt w p) : ∃ a n c, w.cell? ⟨p.rb, 0, none⟩ = some (.slice a n c) := by
  obtain ⟨a, n, c, h1, -⟩ := h.ri
  exact ⟨a, n, c, h1⟩
theorem PrAt.gl {w : World} {p : Pr} (h : PrAt w p) (hp : 0 < p.T.rows.length) : p.g < w.heap.size := by
  obtain ⟨⟨sv, h1, ⟨a, c, rfl, -, -, h2⟩⟩, -⟩ := h.rt
  obtain ⟨b, o, rfl, hr⟩ := h2 hp
  obtain ⟨a', n', c', e1, e2⟩ := h.ri
  rw [h1] at e1
  cases e1
  obtain ⟨o', e⟩ := e2 hp
  cases e
  exact cell_lt (hr 0 hp).1
theorem MTree.keep {w w' : World} {ta b : Nat} {T : T1} (h : MTree w ta T) (hx : Xl [b] w w') (h1 : ta ≠ b) (h4 : ∀ k, w.cell? ⟨b, 0, none⟩ ≠ some (.string k)) : MTree w' ta T := by
  obtain ⟨pv, k1, k2⟩ := h.tr
  refine ⟨pv, k1.xt hx.xt1 (fun e => h1 (by cases e; rfl)), k2.away (Sq := some b) ?_ hx.xt1⟩
  rintro c e k v s sm pl pr n hh hN
  cases e
  exact h4 _ hN.c0
theorem RTree.keep {w w' : World} {rb g b : Nat} {L : List R1} (h : RTree w rb L) (hi : RowsIn w rb g) (hx : Xl [b] w w') (h1 : rb ≠ b) (h2 : 0 < L.length → g ≠ b) : RTree w' rb L ∧ RowsIn w' rb g := by
  obtain ⟨⟨sv, k1, k2⟩, k3⟩ := h
  obtain ⟨a, n, c, e1, e2⟩ := hi
  have hx' := hx.xt1
  have hn : (some b : Option Nat) ≠ some rb := fun e => h1 (by cases e; rfl)
  rw [k1] at e1
  cases e1
  refine ⟨⟨⟨_, hx'.rd k1 hn, ?_⟩, hx'.fz k1 hn k3⟩, ⟨a, n, c, hx'.rd k1 hn, e2⟩⟩
  obtain ⟨a', c', q1, q2, q3, q4⟩ := k2
  cases q1
  refine ⟨_, _, rfl, q2, q3, fun hp => ?_⟩
  obtain ⟨bb, o, rfl, hr⟩ := q4 hp
  obtain ⟨o', e⟩ := e2 hp
  cases e
  exact ⟨_, o, rfl, hr.xt hx' (fun e => h2 hp (by cases e; rfl))⟩
theorem PrAt.keep {w w' : World} {p : Pr} {b : Nat} (h : PrAt w p) (hx : Xl [b] w w') (h1 : p.ta ≠ b) (h2 : p.rb ≠ b) (h3 : 0 < p.T.rows.length → p.g ≠ b) (h4 : ∀ k, w.cell? ⟨b, 0, none⟩ ≠ some (.string k)) : PrAt w' p := by
  obtain ⟨k1, k2⟩ := h.rt.keep h.ri hx h2 h3
  exact ⟨h.mt.keep hx h1 h4, k1, h.gd, k2⟩
theorem frozen_ext {w w' : World} (hx : Ext w w') {b o : Nat} {v : Value} (hc : w.cell? ⟨b, o, none⟩ = some v) (h : w.frozen? ⟨b, o, none⟩ = false) : w'.frozen? ⟨b, o, none⟩ = false := (Xt.of hx : Xt none _ _).fz hc (by simp) h
/-- The two rows of pointers, and what they point to. -/
structure Wd (B : Nat) (w : World) (wb : Nat) (va vb : Value) (l : List Pr) : Prop where
  n1 : 1 ≤ l.length
  n4 : l.length ≤ 4
  ca : w.cell? ⟨wb, 0, none⟩ = some va
  cb : w.cell? ⟨wb, 1, none⟩ = some vb
  fa : w.frozen? ⟨wb, 0, none⟩ = false
  fb : w.frozen? ⟨wb, 1, none⟩ = false
  oa : OwnP w B 58 va (l.map Pr.ta)
  ob : OwnP w B 101 vb (l.map Pr.rb)
  bw : B ≤ wb
  bl : B ≤ w.heap.size
  at_ : ∀ p ∈ l, PrAt w p
  bs : ∀ p ∈ l, B ≤ p.ta ∧ B ≤ p.rb ∧ p.rb ≠ wb
  ap : l.Pairwise fun p q => p.ta ≠ q.ta ∧ p.rb ≠ q.rb
  gs : ∀ p ∈ l, 0 < p.T.rows.length → p.g ≠ wb ∧ va.ownBlock ≠ some p.g ∧ vb.ownBlock ≠ some p.g ∧ ∀ q ∈ l, p.g ≠ q.ta ∧ p.g ≠ q.rb
theorem Wd.ext {B : Nat} {w w' : World} {wb : Nat} {va vb : Value} {l : List Pr} (h : Wd B w wb va vb l) (hx : Ext w w') : Wd B w' wb va vb l :=
  ⟨h.n1, h.n4, cell_ext hx h.ca, cell_ext hx h.cb, frozen_ext hx h.ca h.fa, frozen_ext hx h.cb h.fb, own_ext h.oa hx, own_ext h.ob hx, h.bw, Nat.le_trans h.bl hx.below.size, fun p hp => (h.at_ p hp).ext hx, h.bs, h.ap, h.gs⟩
theorem Wd.oa0 {B : Nat} {w : World} {wb : Nat} {va vb : Value} {l : List Pr} (h : Wd B w wb va vb l) : ∃ g c, va = .slice (some ⟨g, 0, none⟩) l.length c ∧ l.length ≤ c ∧ B ≤ g ∧ ∀ i, (hi : i < l.length) → w.cell? ⟨g, i, none⟩ = some (.pointer (some ⟨l[i].ta, 0, none⟩)) := by
  obtain ⟨g, c, h1, h2, h3, h4⟩ := own_ptr_cell h.oa (by rw [List.length_map]; exact h.n1)
  rw [List.length_map] at h1 h2
  exact ⟨g, c, h1, h2, h3, fun i hi => by have := h4 i (by rw [List.length_map]; exact hi); simpa using this⟩
theorem Wd.ob0 {B : Nat} {w : World} {wb : Nat} {va vb : Value} {l : List Pr} (h : Wd B w wb va vb l) : ∃ g c, vb = .slice (some ⟨g, 0, none⟩) l.length c ∧ l.length ≤ c ∧ B ≤ g ∧ ∀ i, (hi : i < l.length) → w.cell? ⟨g, i, none⟩ = some (.pointer (some ⟨l[i].rb, 0, none⟩)) := by
  obtain ⟨g, c, h1, h2, h3, h4⟩ := own_ptr_cell h.ob (by rw [List.length_map]; exact h.n1)
  rw [List.length_map] at h1 h2
  exact ⟨g, c, h1, h2, h3, fun i hi => by have := h4 i (by rw [List.length_map]; exact hi); simpa using this⟩
/-- A row of pointers lies where no tree, no row of the document and not the world lies. -/
theorem Wd.own_ta {B : Nat} {w : World} {wb : Nat} {va vb : Value} {l : List Pr} (h : Wd B w wb va vb l) {p : Pr} (hp : p ∈ l) : va.ownBlock ≠ some p.ta ∧ va.ownBlock ≠ some p.rb ∧ vb.ownBlock ≠ some p.ta ∧ vb.ownBlock ≠ some p.rb ∧ p.ta ≠ p.rb ∧ p.ta ≠ wb ∧ va.ownBlock ≠ some wb ∧ vb.ownBlock ≠ some wb := by
  obtain ⟨g, c, rfl, -, -, hg⟩ := h.oa0
  obtain ⟨g', c', rfl, -, -, hg'⟩ := h.ob0
  have h1 := hg 0 h.n1
  have h2 := hg' 0 h.n1
  have h3 := (h.at_ p hp).tc
  obtain ⟨a, n, cc, h4⟩ := (h.at_ p hp).rc
  have h5 := h.ca
  simp only [Value.ownBlock, ne_eq, Option.some.injEq]
  refine ⟨?_, ?_, ?_, ?_, ?_, ?_, ?_, ?_⟩
  · rintro rfl; rw [h1] at h3; cases h3
  · rintro rfl; rw [h1] at h4; cases h4
  · rintro rfl; rw [h2] at h3; cases h3
  · rintro rfl; rw [h2] at h4; cases h4
  · intro e; rw [e, h4] at h3; cases h3
  · intro e; rw [e, h5] at h3; cases h3
  · rintro rfl; rw [h1] at h5; cases h5
  · rintro rfl; have := h.ca; rw [h2] at this; cases this
theorem Wd.cross {B : Nat} {w : World} {wb : Nat} {va vb : Value} {l : List Pr} (h : Wd B w wb va vb l) {p q : Pr} (hp : p ∈ l) (hq : q ∈ l) : p.ta ≠ q.rb := by
  have h3 := (h.at_ p hp).tc
  obtain ⟨a, n, cc, h4⟩ := (h.at_ q hq).rc
  intro e
  rw [e, h4] at h3
  cases h3
theorem Wd.apart {B : Nat} {w : World} {wb : Nat} {va vb : Value} {l : List Pr} (h : Wd B w wb va vb l) {i j : Nat} (hi : i < l.length) (hj : j < l.length) (hn : i ≠ j) : l[i].ta ≠ l[j].ta ∧ l[i].rb ≠ l[j].rb := by
  have := List.pairwise_iff_getElem.1 h.ap
  rcases Nat.lt_or_gt_of_ne hn with h1 | h1
  · exact this i j hi hj h1
  · have := this j i hj hi h1; exact ⟨this.1.symm, this.2.symm⟩
theorem Wd.lt {B : Nat} {w : World} {wb : Nat} {va vb : Value} {l : List Pr} (h : Wd B w wb va vb l) : wb < w.heap.size ∧ (∀ x, va.ownBlock = some x → x < w.heap.size) ∧ (∀ x, vb.ownBlock = some x → x < w.heap.size) ∧ ∀ p ∈ l, p.ta < w.heap.size ∧ p.rb < w.heap.size := by
  refine ⟨cell_lt h.ca, fun x hx => (World.ownsRow.lt h.oa x hx).2, fun x hx => (World.ownsRow.lt h.ob x hx).2, fun p hp => ⟨cell_lt (h.at_ p hp).tc, ?_⟩⟩
  obtain ⟨a, n, c, hc⟩ := (h.at_ p hp).rc
  exact cell_lt hc
theorem set_ta {l : List Pr} {k : Nat} (hk : k < l.length) {x : Pr} (hx : x.ta = l[k].ta) {i : Nat} (hi : i < (l.set k x).length) : (l.set k x)[i].ta = (l[i]'(by simpa using hi)).ta := by
  rw [List.getElem_set]
  split
  · rename_i e; subst e; exact hx
  · rfl
theorem set_rb {l : List Pr} {k : Nat} (hk : k < l.length) {x : Pr} (hx : x.rb = l[k].rb) {i : Nat} (hi : i < (l.set k x).length) : (l.set k x)[i].rb = (l[i]'(by simpa using hi)).rb := by
  rw [List.getElem_set]
  split
  · rename_i e; subst e; exact hx
  · rfl
theorem Wd.put {B : Nat} {w w1 w2 : World} {wb : Nat} {va vb : Value} {l : List Pr} (h : Wd B w wb va vb l) {k : Nat} (hk : k < l.length) {T' : T1} {g' : Nat}
    (hx1 : Xl [l[k].ta] w w1) (hm : MTree w1 l[k].ta T') (hx2 : Xl [l[k].rb] w1 w2) (hr : RTree w2 l[k].rb T'.rows) (hg : w1.heap.size ≤ g') (hi : RowsIn w2 l[k].rb g') (hgd : Good T') :
    Wd B w2 wb va vb (l.set k ⟨l[k].ta, l[k].rb, T', g'⟩) := by
  have hkm := List.getElem_mem hk
  obtain ⟨o1, o2, o3, o4, o5, o6, o7, o8⟩ := h.own_ta hkm
  obtain ⟨l1, l2, l3, l4⟩ := h.lt
  have hbs := h.bs _ hkm
  have hs1 := hx1.size
  have n1 : (some l[k].ta : Option Nat) ≠ some wb := fun e => o6 (by cases e; rfl)
  have n2 : (some l[k].rb : Option Nat) ≠ some wb := fun e => hbs.2.2 (by cases e; rfl)
  have c1 : ∀ q, w.cell? ⟨l[k].ta, 0, none⟩ ≠ some (.string q) := fun q e => by rw [(h.at_ _ hkm).tc] at e; cases e
  have hki := (h.at_ _ hkm).rt.keep (h.at_ _ hkm).ri hx1 (Ne.symm o5) (fun hp => ((h.gs _ hkm hp).2.2.2 _ hkm).1)
  have c2 : ∀ q, w1.cell? ⟨l[k].rb, 0, none⟩ ≠ some (.string q) := fun q e => by
    obtain ⟨a, n, c, h1, -⟩ := hki.2
    rw [h1] at e; cases e
  have hta : (l.set k ⟨l[k].ta, l[k].rb, T', g'⟩).map Pr.ta = l.map Pr.ta := by
    apply List.ext_getElem (by simp)
    intro i h1 h2
    rw [List.getElem_map, List.getElem_map, set_ta (x := ⟨l[k].ta, l[k].rb, T', g'⟩) hk rfl]
  have hrb : (l.set k ⟨l[k].ta, l[k].rb, T', g'⟩).map Pr.rb = l.map Pr.rb := by
    apply List.ext_getElem (by simp)
    intro i h1 h2
    rw [List.getElem_map, List.getElem_map, set_rb (x := ⟨l[k].ta, l[k].rb, T', g'⟩) hk rfl]
  have hother : ∀ i, (hil : i < l.length) → i ≠ k → PrAt w2 l[i] := fun i hil hne => by
    have him := List.getElem_mem hil
    have ha := h.apart hil hk hne
    have p1 := (h.at_ _ him).keep hx1 ha.1 (Ne.symm (h.cross hkm him)) (fun hp => ((h.gs _ him hp).2.2.2 _ hkm).1) c1
    exact p1.keep hx2 (h.cross him hkm) ha.2 (fun hp => ((h.gs _ him hp).2.2.2 _ hkm).2) c2
  have hmem : ∀ p ∈ l.set k ⟨l[k].ta, l[k].rb, T', g'⟩, p = ⟨l[k].ta, l[k].rb, T', g'⟩ ∨ ∃ i, ∃ hil : i < l.length, i ≠ k ∧ p = l[i] := fun p hp => by
    obtain ⟨i, hi1, rfl⟩ := List.getElem_of_mem hp
    rw [List.getElem_set]
    split
    · exact .inl rfl
    · rename_i e; exact .inr ⟨i, by simpa using hi1, fun e' => e e'.symm, rfl⟩
  refine ⟨by simpa using h.n1, by simpa using h.n4, hx2.xt1.rd (hx1.xt1.rd h.ca n1) n2, hx2.xt1.rd (hx1.xt1.rd h.cb n1) n2, hx2.xt1.fz (hx1.xt1.rd h.ca n1) n2 (hx1.xt1.fz h.ca n1 h.fa), hx2.xt1.fz (hx1.xt1.rd h.cb n1) n2 (hx1.xt1.fz h.cb n1 h.fb),
    by rw [hta]; exact own_xl (own_xl h.oa hx1 o1) hx2 o2, by rw [hrb]; exact own_xl (own_xl h.ob hx1 o3) hx2 o4, h.bw, Nat.le_trans h.bl (Nat.le_trans hs1 hx2.size), ?_, ?_, ?_, ?_⟩
  · intro p hp
    rcases hmem p hp with rfl | ⟨i, hil, hne, rfl⟩
    · exact ⟨hm.keep hx2 o5 c2, hr, hgd, hi⟩
    · exact hother i hil hne
  · intro p hp
    rcases hmem p hp with rfl | ⟨i, hil, hne, rfl⟩
    · exact hbs
    · exact h.bs _ (List.getElem_mem hil)
  · rw [List.pairwise_iff_getElem]
    intro i j hi' hj' hij
    rw [set_ta (x := ⟨l[k].ta, l[k].rb, T', g'⟩) hk rfl, set_ta (x := ⟨l[k].ta, l[k].rb, T', g'⟩) hk rfl, set_rb (x := ⟨l[k].ta, l[k].rb, T', g'⟩) hk rfl, set_rb (x := ⟨l[k].ta, l[k].rb, T', g'⟩) hk rfl]
    exact h.apart (by simpa using hi') (by simpa using hj') (Nat.ne_of_lt hij)
  · intro p hp hpos
    have hq : ∀ q ∈ l.set k ⟨l[k].ta, l[k].rb, T', g'⟩, ∃ q' ∈ l, q.ta = q'.ta ∧ q.rb = q'.rb := fun q hq => by
      rcases hmem q hq with rfl | ⟨i, hil, hne, rfl⟩
      · exact ⟨_, hkm, rfl, rfl⟩
      · exact ⟨_, List.getElem_mem hil, rfl, rfl⟩
    rcases hmem p hp with rfl | ⟨i, hil, hne, rfl⟩
    · refine ⟨by show g' ≠ wb; omega, fun e => by have := l2 _ e; simp only at this; omega, fun e => by have := l3 _ e; simp only at this; omega, fun q hqm => ?_⟩
      obtain ⟨q', hq', e1, e2⟩ := hq q hqm
      have := l4 _ hq'
      rw [e1, e2]
      show g' ≠ q'.ta ∧ g' ≠ q'.rb
      omega
    · obtain ⟨z1, z2, z3, z4⟩ := h.gs _ (List.getElem_mem hil) hpos
      refine ⟨z1, z2, z3, fun q hqm => ?_⟩
      obtain ⟨q', hq', e1, e2⟩ := hq q hqm
      rw [e1, e2]
      exact z4 q' hq'
theorem xl_of_grown {w w' : World} {v : Value} {b : Nat} (h : w.grownBy w' v.ownBlock) (hb : v.ownBlock = some b) : Xl [b] w w' := ⟨h.os, h.tape, h.output, h.size, fun k hk hn => h.block k hk (by rw [hb]; intro e; cases e; simp at hn)⟩
theorem Wd.clone {B : Nat} {W0 A Bw C D : World} {wb : Nat} {va vb va' vb' : Value} {l : List Pr} (h : Wd B W0 wb va vb l) (hl : l.length < 4) {p : Pr}
    (hA : Ext W0 A) (hB : A.grownBy Bw va.ownBlock) (hC : Ext Bw C) (hD : C.grownBy D vb.ownBlock) (oA : OwnP Bw B 58 va' (l.map Pr.ta ++ [p.ta])) (oB : OwnP D B 101 vb' (l.map Pr.rb ++ [p.rb]))
    (bA : va'.ownBlock = va.ownBlock ∨ va'.ownBlock = some A.heap.size) (bB : vb'.ownBlock = vb.ownBlock ∨ vb'.ownBlock = some C.heap.size)
    (hm : MTree A p.ta p.T) (hr : RTree C p.rb p.T.rows) (hi : RowsIn C p.rb p.g) (hgd : Good p.T) (f1 : W0.heap.size ≤ p.ta) (f2 : Bw.heap.size ≤ p.rb) (f3 : Bw.heap.size ≤ p.g) (f4 : 0 < p.T.rows.length → p.g < p.rb) :
    Wd B ((D.setCell ⟨wb, 0, none⟩ va').setCell ⟨wb, 1, none⟩ vb') wb va' vb' (l ++ [p]) := by
  obtain ⟨ga, cga, eva, -, -, hga⟩ := h.oa0
  obtain ⟨gb, cgb, evb, -, -, hgb⟩ := h.ob0
  have eA : va.ownBlock = some ga := by rw [eva]; rfl
  have eB : vb.ownBlock = some gb := by rw [evb]; rfl
  have hga0 := hga 0 h.n1
  have hgb0 := hgb 0 h.n1
  have h0m := List.getElem_mem h.n1
  have hgab : ga ≠ gb := by
    rintro rfl
    rw [hga0] at hgb0
    have := h.cross h0m h0m
    simp only [Option.some.injEq, Value.pointer.injEq, Addr.mk.injEq, and_true] at hgb0
    exact this hgb0
  obtain ⟨-, -, -, -, -, -, q7, q8⟩ := h.own_ta h0m
  rw [eA] at q7
  rw [eB] at q8
  have gaw : ga ≠ wb := fun e => q7 (by rw [e])
  have gbw : gb ≠ wb := fun e => q8 (by rw [e])
  obtain ⟨l1, l2, l3, l4⟩ := h.lt
  have l2' := l2 _ eA
  have l3' := l3 _ eB
  have xB := xl_of_grown hB eA
  have xD := xl_of_grown hD eB
  have xE1 : Xl [wb] D (D.setCell ⟨wb, 0, none⟩ va') := (Xl.refl D).set (by simp)
  have xE2 : Xl [wb] (D.setCell ⟨wb, 0, none⟩ va') ((D.setCell ⟨wb, 0, none⟩ va').setCell ⟨wb, 1, none⟩ vb') := (Xl.refl _).set (by simp)
  have xE := Xl.trans _ _ _ xE1 xE2
  have s1 := hA.below.size
  have s2 := xB.size
  have s3 := hC.below.size
  have s4 := xD.size
  have n1 : (some ga : Option Nat) ≠ some wb := fun e => gaw (by cases e; rfl)
  have n2 : (some gb : Option Nat) ≠ some wb := fun e => gbw (by cases e; rfl)
  have n3 : (some ga : Option Nat) ≠ some gb := fun e => hgab (by cases e; rfl)
  have wa := xD.xt1.rd (cell_ext hC (xB.xt1.rd (cell_ext hA h.ca) n1)) n2
  have wbc := xD.xt1.rd (cell_ext hC (xB.xt1.rd (cell_ext hA h.cb) n1)) n2
  have wfa := xD.xt1.fz (cell_ext hC (xB.xt1.rd (cell_ext hA h.ca) n1)) n2 (frozen_ext hC (xB.xt1.rd (cell_ext hA h.ca) n1) (xB.xt1.fz (cell_ext hA h.ca) n1 (frozen_ext hA h.ca h.fa)))
  have wfb := xD.xt1.fz (cell_ext hC (xB.xt1.rd (cell_ext hA h.cb) n1)) n2 (frozen_ext hC (xB.xt1.rd (cell_ext hA h.cb) n1) (xB.xt1.fz (cell_ext hA h.cb) n1 (frozen_ext hA h.cb h.fb)))
  have ca : ∀ q, A.cell? ⟨ga, 0, none⟩ ≠ some (.string q) := fun q e => by rw [cell_ext hA hga0] at e; cases e
  have cb : ∀ q, C.cell? ⟨gb, 0, none⟩ ≠ some (.string q) := fun q e => by
    rw [cell_ext hC (xB.xt1.rd (cell_ext hA hgb0) n3)] at e; cases e
  have cw : ∀ q, D.cell? ⟨wb, 0, none⟩ ≠ some (.string q) := fun q e => by rw [wa, eva] at e; cases e
  have lrb : p.rb < C.heap.size := by
    obtain ⟨rsv, rn, rcc, hrcell, -⟩ := hi
    exact cell_lt hrcell
  have lta : p.ta < A.heap.size := by
    obtain ⟨pv, k1, -⟩ := hm.tr
    exact cell_lt k1.at_.c0
  have bA' : va'.ownBlock = some ga ∨ va'.ownBlock = some A.heap.size := by rw [← eA]; exact bA
  have bB' : vb'.ownBlock = some gb ∨ vb'.ownBlock = some C.heap.size := by rw [← eB]; exact bB
  have bAlt : ∀ x, va'.ownBlock = some x → x < Bw.heap.size := fun x hx => (World.ownsRow.lt oA x hx).2
  have vna : va'.ownBlock ≠ some gb := by
    rcases bA' with e | e <;> rw [e] <;> intro e' <;> simp only [Option.some.injEq] at e' <;> omega
  have vnw : va'.ownBlock ≠ some wb := by
    rcases bA' with e | e <;> rw [e] <;> intro e' <;> simp only [Option.some.injEq] at e' <;> omega
  have vnb : vb'.ownBlock ≠ some wb := by
    rcases bB' with e | e <;> rw [e] <;> intro e' <;> simp only [Option.some.injEq] at e' <;> omega
  have hold : ∀ q ∈ l, PrAt ((D.setCell ⟨wb, 0, none⟩ va').setCell ⟨wb, 1, none⟩ vb') q := fun q hq => by
    obtain ⟨o1, o2, o3, o4, o5, o6, -, -⟩ := h.own_ta hq
    rw [eA] at o1 o2
    rw [eB] at o3 o4
    have hgs := h.gs q hq
    rw [eA, eB] at hgs
    have p1 := ((h.at_ q hq).ext hA).keep xB (fun e => o1 (by rw [e])) (fun e => o2 (by rw [e])) (fun hp e => (hgs hp).2.1 (by rw [e])) ca
    have p2 := (p1.ext hC).keep xD (fun e => o3 (by rw [e])) (fun e => o4 (by rw [e])) (fun hp e => (hgs hp).2.2.1 (by rw [e])) cb
    exact p2.keep xE o6 (h.bs q hq).2.2 (fun hp => (hgs hp).1) cw
  have hgl : 0 < p.T.rows.length → p.g < C.heap.size := fun hp => by have := f4 hp; omega
  have hnew : PrAt ((D.setCell ⟨wb, 0, none⟩ va').setCell ⟨wb, 1, none⟩ vb') p := by
    have m1 := ((hm.keep xB (by omega) ca).ext hC).keep xD (by omega) cb
    obtain ⟨r1, r2⟩ := hr.keep hi xD (by omega) (fun _ => by omega)
    obtain ⟨r3, r4⟩ := r1.keep r2 xE (by omega) (fun _ => by omega)
    exact ⟨m1.keep xE (by omega) cw, r3, hgd, r4⟩
  refine ⟨by simp, by simp; omega, ?_, ?_, tset_fz (tset_fz wfa), tset_fz (tset_fz wfb), ?_, ?_, h.bw, ?_, ?_, ?_, ?_, ?_⟩
  · exact (tset_neo (by omega)).trans (tset_eq wa)
  · exact tset_eq ((tset_neo (by omega)).trans wbc)
  · rw [List.map_append]
    exact own_xl (own_xl (own_ext oA hC) xD vna) xE vnw
  · rw [List.map_append]
    exact own_xl oB xE vnb
  · have := xE.size; have := h.bl; omega
  · intro q hq
    rcases List.mem_append.1 hq with hq | hq
    · exact hold q hq
    · rw [List.mem_singleton.1 hq]; exact hnew
  · intro q hq
    rcases List.mem_append.1 hq with hq | hq
    · exact h.bs q hq
    · rw [List.mem_singleton.1 hq]
      have := h.bl
      refine ⟨by omega, by omega, by omega⟩
  · refine List.pairwise_append.2 ⟨h.ap, by simp, fun a ha b hb => ?_⟩
    rw [List.mem_singleton.1 hb]
    have := l4 a ha
    omega
  · intro q hq hpos
    rcases List.mem_append.1 hq with hq | hq
    · obtain ⟨z1, z2, z3, z4⟩ := h.gs q hq hpos
      rw [eA] at z2
      rw [eB] at z3
      have hgl := (h.at_ q hq).gl hpos
      refine ⟨z1, ?_, ?_, fun x hx => ?_⟩
      · rcases bA' with e | e <;> rw [e]
        · exact z2
        · intro e'; simp only [Option.some.injEq] at e'; omega
      · rcases bB' with e | e <;> rw [e]
        · exact z3
        · intro e'; simp only [Option.some.injEq] at e'; omega
      · rcases List.mem_append.1 hx with hx | hx
        · exact z4 x hx
        · rw [List.mem_singleton.1 hx]
          exact ⟨by omega, by omega⟩
    · rw [List.mem_singleton.1 hq] at hpos ⊢
      have hg1 := f4 hpos
      have hg2 := hgl hpos
      refine ⟨by omega, fun e => by have := bAlt _ e; omega, ?_, fun x hx => ?_⟩
      · rcases bB' with e | e <;> rw [e] <;> intro e' <;> simp only [Option.some.injEq] at e' <;> omega
      · rcases List.mem_append.1 hx with hx | hx
        · have := l4 x hx
          exact ⟨by omega, by omega⟩
        · rw [List.mem_singleton.1 hx]
          exact ⟨by omega, by omega⟩
end Go.Proofs.Ytgglbohcnlcagaa
