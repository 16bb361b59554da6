/- What is lent: a frame's clone whose lists have two marks behind their ends. -/
import Derived.Test.YtgglbohcnlcagaaFR
namespace Go.Proofs.Ytgglbohcnlcagaa
open Go.RowKit
set_option maxHeartbeats 8000000
set_option maxRecDepth 100000
set_option linter.unusedSimpArgs false
set_option linter.unusedVariables false
theorem en_lent : Enters Try.prog 23 := ⟨_, Try.func23, by kernel_rfl, rfl⟩
attribute [-go_sem] Builtin.append_

def entMark : Ent := ⟨⟨#[109, 97, 114, 107]⟩, 0, 0, ⟨#[]⟩, false⟩
def entBehind : Ent := ⟨⟨#[98, 101, 104, 105, 110, 100]⟩, 0, 0, ⟨#[]⟩, false⟩
def marks : List Ent := [entMark, entBehind]
def mkP (p : Prt) : Prt := { p with ents := p.ents ++ marks }
def prt77 : Prt := ⟨77, ⟨#[]⟩, ⟨#[]⟩, false, 0, 0, 0, []⟩
def prt78 : Prt := ⟨78, ⟨#[]⟩, ⟨#[]⟩, false, 0, 0, 0, []⟩

theorem flat_set {α : Type} (f : α → List Value) (k : Nat) (hf : ∀ a, (f a).length = k) {j : Nat} (hj : j < k) (u : Value) (a' : α) : ∀ (l : List α) (i : Nat) (h : i < l.length), f a' = (f l[i]).set j u → (l.flatMap f).set (i * k + j) u = (l.set i a').flatMap f
  | [], i, h, _ => by simp at h
  | a :: l, 0, _, e => by
    rw [List.flatMap_cons, Nat.zero_mul, Nat.zero_add, List.set_append_left _ _ (by rw [hf]; exact hj), List.set_cons_zero, List.flatMap_cons, e]
    rfl
  | a :: l, i + 1, h, e => by
    rw [List.flatMap_cons, List.set_append_right _ _ (by rw [hf, Nat.add_mul]; omega), hf, List.set_cons_succ, List.flatMap_cons]
    have e2 : (i + 1) * k + j - k = i * k + j := by rw [Nat.add_mul]; omega
    rw [e2, flat_set f k hf hj u a' l i (by simpa using h) e]
theorem heap_setCell_same {w : World} {S j : Nat} {u : Value} {cur : Array Value} {e : TypeId} (h : w.heap[S]? = some (.cells cur e (0, 0))) :
    (w.setCell ⟨S, j, none⟩ u).heap[S]? = some (.cells (cur.setIfInBounds j u) e (0, 0)) := by
  obtain ⟨hlt, hk⟩ := Array.getElem?_eq_some_iff.1 h
  show (w.heap.modify S _)[S]? = _
  rw [Array.getElem?_eq_getElem (by rw [Array.size_modify]; exact hlt), Array.getElem_modify_self, hk]
  rfl
theorem row_set {w : World} {B S c n i size : Nat} {e : TypeId} {xs : List Value} {u : Value} (h : w.ownsRow B e size (.slice (some ⟨S, 0, none⟩) n c) n xs) (hi : i < n * size) :
    (w.setCell ⟨S, i, none⟩ u).ownsRow B e size (.slice (some ⟨S, 0, none⟩) n c) n (xs.set i u) := by
  refine ⟨by rw [List.length_set]; exact h.1, ?_⟩
  rcases h.2 with ⟨h1, -⟩ | ⟨g, cap, cur, h1, h2, h3, h4, h5, h6, h7⟩
  · cases h1
  · cases h1
    refine .inr ⟨S, c, _, rfl, h2, heap_setCell_same h3, h4, h5, by simpa using h6, ?_⟩
    rw [← h7, Array.toList_setIfInBounds, List.take_set]
theorem own_ne_cells {w : World} {B G : Nat} {e t : TypeId} {size n : Nat} {v : Value} {xs : List Value} {cur : Array Value} {z : Nat × Nat} (h : w.ownsRow B e size v n xs) (hG : w.heap[G]? = some (.cells cur t z)) (hne : e ≠ t) : v.ownBlock ≠ some G := by
  rcases h.2 with ⟨rfl, -⟩ | ⟨g, cap, cur', rfl, -, hg, -⟩
  · simp [Value.ownBlock]
  · simp only [Value.ownBlock, ne_eq, Option.some.injEq]
    intro hh
    subst hh
    rw [hg] at hG
    cases hG
    exact hne rfl

/-- Two marks behind the entries of part k. -/
theorem OwnP.mark {B : Nat} {w : World} {S c : Nat} {qs : List (Prt × Value)} (h : OwnP B w (.slice (some ⟨S, 0, none⟩) qs.length c) qs) {k : Nat} (hk : k < qs.length) (hn : qs[k].1.ents.length + 2 ≤ 1073741824) (hB : B ≤ w.heap.size) :
    ∃ E' c' w3, (Builtin.append_ #[39, 39] 39 #[qs[k].2, .slice (some ⟨w.heap.size, 0, none⟩) 2 2]).run Try.prog
        (w.alloc (.cells #[.string ⟨#[109, 97, 114, 107]⟩, .int .i64 0, .int .i64 0, .string ⟨#[]⟩, .bool false, .string ⟨#[98, 101, 104, 105, 110, 100]⟩, .int .i64 0, .int .i64 0, .string ⟨#[]⟩, .bool false] 45)) = .ok (.slice (some ⟨E', 0, none⟩) (qs[k].1.ents.length + 2) c') w3 ∧
      (w.alloc (.cells #[.string ⟨#[109, 97, 114, 107]⟩, .int .i64 0, .int .i64 0, .string ⟨#[]⟩, .bool false, .string ⟨#[98, 101, 104, 105, 110, 100]⟩, .int .i64 0, .int .i64 0, .string ⟨#[]⟩, .bool false] 45)).grownBy w3 qs[k].2.ownBlock ∧
      OwnP B (w3.setCell ⟨S, k * 8 + 7, none⟩ (.slice (some ⟨E', 0, none⟩) (qs[k].1.ents.length + 2) c')) (.slice (some ⟨S, 0, none⟩) qs.length c) (qs.set k (mkP qs[k].1, .slice (some ⟨E', 0, none⟩) (qs[k].1.ents.length + 2) c')) := by
  obtain ⟨W, hW⟩ : ∃ W, W = w.alloc (.cells #[.string ⟨#[109, 97, 114, 107]⟩, .int .i64 0, .int .i64 0, .string ⟨#[]⟩, .bool false, .string ⟨#[98, 101, 104, 105, 110, 100]⟩, .int .i64 0, .int .i64 0, .string ⟨#[]⟩, .bool false] 45) := ⟨_, rfl⟩
  have hx : Ext w W := by rw [hW]; (repeat (first | exact Ext.refl _ | apply Ext.drew_left | apply Ext.drew | apply Ext.alloc))
  have hP := h.ext hx
  have hE := hP.ents qs[k] (List.getElem_mem hk)
  obtain ⟨v', w3, hrun, hE3, hg3, hat⟩ := append_entsL (es := marks) (b := w.heap.size) (o := 0) (c := 2) hE
    (fun i hi => by
      rw [hW]
      match i, hi with
      | 0, _ => exact ⟨by simp only [marks, entMark, List.getElem_cons_zero]; go_simp, by simp only [marks, entMark, List.getElem_cons_zero]; go_simp, by simp only [marks, entMark, List.getElem_cons_zero]; go_simp, by simp only [marks, entMark, List.getElem_cons_zero]; go_simp, by simp only [marks, entMark, List.getElem_cons_zero]; go_simp⟩
      | 1, _ => exact ⟨by simp only [marks, entBehind, List.getElem_cons_zero, List.getElem_cons_succ]; go_simp, by simp only [marks, entBehind, List.getElem_cons_zero, List.getElem_cons_succ]; go_simp, by simp only [marks, entBehind, List.getElem_cons_zero, List.getElem_cons_succ]; go_simp, by simp only [marks, entBehind, List.getElem_cons_zero, List.getElem_cons_succ]; go_simp, by simp only [marks, entBehind, List.getElem_cons_zero, List.getElem_cons_succ]; go_simp⟩)
    (by simpa [marks] using hn) (Nat.le_trans hB hx.below.size)
  obtain ⟨E', c', rfl⟩ := hE3.2
  have e2 : (qs[k].1.ents ++ marks).length = qs[k].1.ents.length + 2 := by rw [List.length_append]; rfl
  rw [e2] at hrun hE3 hat
  rw [← hW]
  refine ⟨E', c', w3, hrun, hg3, ?_⟩
  have hrow3 : w3.ownsRow B 41 8 (.slice (some ⟨S, 0, none⟩) qs.length c) qs.length (qs.flatMap pcL) := hP.row.kept hg3 (own_apart hP.row hE.1 (by decide))
  have hSB : w3.ownsRow B 41 8 (.slice (some ⟨S, 0, none⟩) qs.length c) qs.length (qs.flatMap pcL) := hrow3
  have keep : ∀ u es, OwnE B w3 u es → OwnE B (w3.setCell ⟨S, k * 8 + 7, none⟩ (.slice (some ⟨E', 0, none⟩) (qs[k].1.ents.length + 2) c')) u es := fun u es hu =>
    ⟨hu.1.kept (grown_set _ _ _ _) (own_apart hu.1 hrow3 (by decide)), hu.2⟩
  have hap := List.pairwise_iff_getElem.1 h.apart
  have hapk : ∀ i, (hi : i < qs.length) → i ≠ k → qs[i].2.ownBlock ≠ qs[k].2.ownBlock := fun i hi hne => by
    rcases Nat.lt_or_gt_of_ne hne with h1 | h1
    · exact hap i k hi hk h1
    · exact (hap k i hk hi h1).symm
  have hlow : ∀ i, (hi : i < qs.length) → ∀ b, qs[i].2.ownBlock = some b → b < W.heap.size := fun i hi b hb => ((hP.ents qs[i] (List.getElem_mem hi)).1.lt b hb).2
  have hold : ∀ i, (hi : i < qs.length) → i ≠ k → qs[i].2.ownBlock ≠ (Value.slice (some ⟨E', 0, none⟩) (qs[k].1.ents.length + 2) c').ownBlock := fun i hi hne => by
    rcases hat with hat | hat
    · rw [hat]; exact hapk i hi hne
    · rw [hat]
      intro hh
      have := hlow i hi _ hh
      omega
  refine ⟨?_, ⟨S, c, by rw [List.length_set]⟩, ?_, ?_⟩
  · rw [List.length_set, ← flat_set pcL 8 (fun _ => rfl) (j := 7) (by omega) (.slice (some ⟨E', 0, none⟩) (qs[k].1.ents.length + 2) c') (mkP qs[k].1, .slice (some ⟨E', 0, none⟩) (qs[k].1.ents.length + 2) c') qs k hk rfl]
    exact row_set hrow3 (by omega)
  · intro q hq
    obtain ⟨i, hi, rfl⟩ := List.mem_iff_getElem.1 hq
    rw [List.length_set] at hi
    by_cases hik : i = k
    · subst hik
      rw [List.getElem_set_self]
      have h3 := keep _ _ hE3
      unfold OwnE at h3 ⊢
      exact h3
    · rw [List.getElem_set_ne (Ne.symm hik)]
      have h0 := hP.ents qs[i] (List.getElem_mem hi)
      exact keep _ _ ⟨h0.1.kept hg3 (Or.inr (hapk i hi hik)), h0.2⟩
  · rw [List.pairwise_iff_getElem]
    intro i j hi0 hj0 hij
    have hi : i < qs.length := by rwa [List.length_set] at hi0
    have hj : j < qs.length := by rwa [List.length_set] at hj0
    by_cases hik : i = k
    · subst hik
      rw [List.getElem_set_self, List.getElem_set_ne (by omega)]
      exact (hold j hj (by omega)).symm
    · by_cases hjk : j = k
      · subst hjk
        rw [List.getElem_set_self, List.getElem_set_ne (Ne.symm hik)]
        exact hold i hi hik
      · rw [List.getElem_set_ne (Ne.symm hik), List.getElem_set_ne (Ne.symm hjk)]
        exact hap i j hi hj hij

/-- What the marks' loop has done when k parts are over. -/
def marked (l : List Prt) (k : Nat) : List Prt := (l.take k).map mkP ++ l.drop k
theorem marked_get (l : List Prt) (k : Nat) (h : k < l.length) : (marked l k)[k]? = some l[k] := by
  unfold marked
  rw [List.getElem?_append_right (by simp; omega), List.length_map, List.length_take, Nat.min_eq_left (by omega), Nat.sub_self, List.drop_eq_getElem_cons h]
  rfl
theorem marked_succ (l : List Prt) (k : Nat) (h : k < l.length) : (marked l k).set k (mkP l[k]) = marked l (k + 1) := by
  unfold marked
  rw [List.set_append_right _ _ (by simp; omega), List.length_map, List.length_take, Nat.min_eq_left (by omega), Nat.sub_self, List.drop_eq_getElem_cons h, List.set_cons_zero,
    List.take_succ_eq_append_getElem h, List.map_append, List.append_assoc]
  rfl

/-- A frame's own box. -/
def BoxF (w : World) (G : Nat) (f t o li nu tu : Int) (sv : Value) : Prop := w.heap[G]? = some (.cells #[.int .i64 f, .int .i64 t, .int .i64 o, .int .i64 li, .int .i64 nu, .int .i64 tu, sv] 26 (0, 0))
theorem BoxF.at {w : World} {G : Nat} {f t o li nu tu : Int} {sv : Value} (h : BoxF w G f t o li nu tu sv) : FrmAt w G f t o li nu tu sv := by
  unfold BoxF at h
  exact ⟨by simp [World.cell?, h], by simp [World.cell?, h], by simp [World.cell?, h], by simp [World.cell?, h], by simp [World.cell?, h], by simp [World.cell?, h], by simp [World.cell?, h],
    by simp [World.frozen?, h], by simp [World.frozen?, h], by simp [World.frozen?, h], by simp [World.frozen?, h], by simp [World.frozen?, h], by simp [World.frozen?, h], by simp [World.frozen?, h]⟩
theorem BoxF.lt {w : World} {G : Nat} {f t o li nu tu : Int} {sv : Value} (h : BoxF w G f t o li nu tu sv) : G < w.heap.size := (Array.getElem?_eq_some_iff.1 h).1
theorem BoxF.grown {w w' : World} {G : Nat} {f t o li nu tu : Int} {sv : Value} {row : Option Nat} (h : BoxF w G f t o li nu tu sv) (hg : w.grownBy w' row) (hne : some G ≠ row) : BoxF w' G f t o li nu tu sv :=
  (hg.block G h.lt hne).trans h
theorem BoxF.ext {w w' : World} {G : Nat} {f t o li nu tu : Int} {sv : Value} (h : BoxF w G f t o li nu tu sv) (hx : Ext w w') : BoxF w' G f t o li nu tu sv := (hx.below.block G h.lt).trans h
theorem BoxF.new (w : World) (f t o li nu tu : Int) (sv : Value) : BoxF (w.alloc (.cells #[.int .i64 f, .int .i64 t, .int .i64 o, .int .i64 li, .int .i64 nu, .int .i64 tu, sv] 26)) w.heap.size f t o li nu tu sv := heap_alloc_new w _
theorem BoxF.set6 {w : World} {G : Nat} {f t o li nu tu : Int} {sv : Value} (u : Value) (h : BoxF w G f t o li nu tu sv) : BoxF (w.setCell ⟨G, 6, none⟩ u) G f t o li nu tu u := by
  have := heap_setCell_same (j := 6) (u := u) h
  exact this

theorem lent_any (f t o li nu tu : Int) (l : List Prt) (sv : Value) (w : World) (hs : PrtSl w sv l) (hm : l.length ≤ 536870912) (hme : ∀ p ∈ l, p.ents.length ≤ 536870912) :
    Calls Try.prog 23 #[.agg #[.int .i64 f, .int .i64 t, .int .i64 o, .int .i64 li, .int .i64 nu, .int .i64 tu, sv]] w
      fun e w' => ∃ S c qs, e = .returned (.agg #[.int .i64 f, .int .i64 t, .int .i64 o, .int .i64 li, .int .i64 nu, .int .i64 tu, .slice (some ⟨S, 0, none⟩) (l.length + 2) c]) ∧ qs.map (·.1) = l.map mkP ∧
        w'.ownsRow w.heap.size 41 8 (.slice (some ⟨S, 0, none⟩) (l.length + 2) c) (l.length + 2) ((qs ++ [(prt77, .slice none 0 0), (prt78, .slice none 0 0)]).flatMap pcL) ∧ (∀ q ∈ qs, OwnE w.heap.size w' q.2 q.1.ents) ∧ Ext w w' := by
  have HS := hid_mk hs
  have HME := hid_mk hme
  obtain ⟨a, c, rfl, hlc, hl63, -⟩ := hs
  clear hme
  go_enter Try.func23, Try.ntmps23
  go_wp2_with fail
  refine (rfClone_any f t o li nu tu l _ _ (HS.out.ext (by (repeat (first | exact Ext.refl _ | apply Ext.drew_left | apply Ext.drew | apply Ext.alloc)))) hm HME.out).mono ?_
  rintro e w1 ⟨pv, qs, rfl, hq, hP, hx1⟩
  have BR : BoxF w1 (w.heap.size + 1) 0 0 0 0 0 0 (.slice none 0 0) := BoxF.ext (by have h := BoxF.new (w.alloc (.cells #[.int .i64 f, .int .i64 t, .int .i64 o, .int .i64 li, .int .i64 nu, .int .i64 tu, .slice a l.length c] 26)) 0 0 0 0 0 0 (.slice none 0 0); rwa [World.size_alloc] at h) hx1
  have HX1 := hid_mk (Ext.trans _ _ _ (show Ext w _ by (repeat (first | exact Ext.refl _ | apply Ext.drew_left | apply Ext.drew | apply Ext.alloc))) hx1)
  have hs1 := hx1.below.size
  rw [World.size_alloc, World.size_alloc] at hs1
  replace hP := hP.mono (B' := w.heap.size + 2) (by simp)
  obtain ⟨S, c0, rfl⟩ := hP.nn
  have hql : qs.length = l.length := by rw [← hq, List.length_map]
  have BG := BoxF.new w1 f t o li nu tu (.slice (some ⟨S, 0, none⟩) qs.length c0)
  have HP1 := hid_mk (hP.ext (show Ext w1 (w1.alloc (.cells #[.int .i64 f, .int .i64 t, .int .i64 o, .int .i64 li, .int .i64 nu, .int .i64 tu, .slice (some ⟨S, 0, none⟩) qs.length c0] 26)) by (repeat (first | exact Ext.refl _ | apply Ext.drew_left | apply Ext.drew | apply Ext.alloc))))
  have HBR := hid_mk (BR.ext (show Ext w1 (w1.alloc (.cells #[.int .i64 f, .int .i64 t, .int .i64 o, .int .i64 li, .int .i64 nu, .int .i64 tu, .slice (some ⟨S, 0, none⟩) qs.length c0] 26)) by (repeat (first | exact Ext.refl _ | apply Ext.drew_left | apply Ext.drew | apply Ext.alloc))))
  have HX2 := hid_mk (Ext.trans _ _ _ HX1.out (show Ext w1 (w1.alloc (.cells #[.int .i64 f, .int .i64 t, .int .i64 o, .int .i64 li, .int .i64 nu, .int .i64 tu, .slice (some ⟨S, 0, none⟩) qs.length c0] 26)) by (repeat (first | exact Ext.refl _ | apply Ext.drew_left | apply Ext.drew | apply Ext.alloc))))
  have HBG := hid_mk BG
  have HQ := hid_mk hq
  rw [hql] at HP1 HBR HX2 HBG ⊢
  clear hP BR BG hq hx1
  go_wp2
  generalize (w1.alloc (.cells #[.int .i64 f, .int .i64 t, .int .i64 o, .int .i64 li, .int .i64 nu, .int .i64 tu, .slice (some ⟨S, 0, none⟩) l.length c0] 26)) = W2 at *
  go_loopw [4] (fun i wr => ∃ (k : Nat) (qs : List (Prt × Value)), k ≤ l.length ∧ i = .int .i64 k ∧ qs.map (·.1) = marked l k ∧ OwnP (w.heap.size + 2) wr (.slice (some ⟨S, 0, none⟩) qs.length c0) qs ∧ BoxF wr w1.heap.size f t o li nu tu (.slice (some ⟨S, 0, none⟩) l.length c0) ∧
    BoxF wr (w.heap.size + 1) 0 0 0 0 0 0 (.slice none 0 0) ∧ Below w.heap.size w wr) (fun i _ => l.length - (intOf i).toNat)
  case atStart => exact ⟨0, qs, Nat.zero_le _, rfl, by simpa [marked] using HQ.out, by rw [hql]; exact HP1.out, HBG.out, HBR.out, HX2.out.below⟩
  case round =>
    clear HQ HP1 HBG HBR HX2 hql
    clear qs
    obtain ⟨k, qs, hk, rfl, hq, hP, hG, hR, hB⟩ := hrel
    have HQ := hid_mk hq
    have HP := hid_mk hP
    have HG := hid_mk hG
    have HR := hid_mk hR
    have HB := hid_mk hB
    have HQL := hid_mk (show qs.length = l.length by have := congrArg List.length hq; simpa [marked] using (by simpa [marked, Nat.min_eq_left hk] using this : qs.length = k + (l.length - k)) |>.trans (by omega))
    obtain ⟨g0, g1, g2, g3, g4, g5, g6, -, -, -, -, -, -, y6⟩ := hG.at
    have hgl := cell_lt g0
    clear hq hP hG hR hB
    by_cases hlt : k < l.length
    · have hkq : k < qs.length := by rw [HQL.out]; exact hlt
      have hek : qs[k].1 = l[k] := by
        have h1 : (qs.map (·.1))[k]? = some l[k] := by rw [HQ.out]; exact marked_get l k hlt
        rw [List.getElem?_map, List.getElem?_eq_getElem hkq] at h1
        simpa using h1
      have hsm : qs[k].1.ents.length + 2 ≤ 1073741824 := by rw [hek]; have := HME.out l[k] (List.getElem_mem hlt); omega
      obtain ⟨Sx, cx, hrow, hcell⟩ := own_cell HP.out.row (by omega)
      have hk7 : wr.cell? ⟨S, k * 8 + 7, none⟩ = some qs[k].2 := by
        cases hrow
        exact hcell _ _ ((flat_get pcL 8 (by omega) (fun _ => rfl) qs k hkq 7 (by omega)).trans rfl)
      have z7 : wr.frozen? ⟨S, k * 8 + 7, none⟩ = false := by
        rcases HP.out.row.2 with ⟨h1, -⟩ | ⟨g, cap, cur, h1, -, h3, -⟩
        · cases h1
        · cases h1
          simp [World.frozen?, h3]
      obtain ⟨Ek, ck, hEk⟩ := (HP.out.ents qs[k] (List.getElem_mem hkq)).2
      obtain ⟨E', c', w3, hrun, hg3, hP3⟩ := OwnP.mark (HP.out.ext (show Ext wr wr.drew by (repeat (first | exact Ext.refl _ | apply Ext.drew_left | apply Ext.drew | apply Ext.alloc)))) hkq hsm (by have := HR.out.lt; show w.heap.size + 2 ≤ wr.heap.size; omega)
      have hSl := cell_lt hk7
      have HQK := hid_mk hek
      have hneS : Ek ≠ S := by
        rcases own_apart (HP.out.ents qs[k] (List.getElem_mem hkq)).1 HP.out.row (by decide) with h | h
        · rw [hEk] at h; cases h
        · rw [hEk] at h; intro e; exact h (by rw [e]; rfl)
      have hneG : Ek ≠ w1.heap.size := by
        have h := own_ne_cells (HP.out.ents qs[k] (List.getElem_mem hkq)).1 HG.out (by decide)
        rw [hEk] at h; intro e; exact h (by rw [e]; rfl)
      have hneR : Ek ≠ w.heap.size + 1 := by
        have h := (HP.out.ents qs[k] (List.getElem_mem hkq)).1.lt Ek (by rw [hEk]; rfl)
        omega
      have HP3 := hid_mk hP3
      rw [hEk] at hk7 hrun hg3
      have hk1 : (k : Int) < (l.length : Int) := by omega
      have HG3 := hid_mk hg3
      clear hcell hrow hek hP3 hg3
      generalize qs[k].1.ents.length = mk at *
      have hrun2 : (Builtin.append_ #[39, 39] 39 #[.slice (some ⟨Ek, 0, none⟩) mk ck, .slice (some ⟨wr.heap.size, 0, none⟩) 2 2]).run Try.prog
        (wr.alloc (.cells #[.string ⟨#[109, 97, 114, 107]⟩, .int .i64 0, .int .i64 0, .string ⟨#[]⟩, .bool false, .string ⟨#[98, 101, 104, 105, 110, 100]⟩, .int .i64 0, .int .i64 0, .string ⟨#[]⟩, .bool false] 45)).drew = .ok (.slice (some ⟨E', 0, none⟩) (mk + 2) c') w3 := hrun
      have hx3 : Ext wr (wr.drew.alloc (.cells #[.string ⟨#[109, 97, 114, 107]⟩, .int .i64 0, .int .i64 0, .string ⟨#[]⟩, .bool false, .string ⟨#[98, 101, 104, 105, 110, 100]⟩, .int .i64 0, .int .i64 0, .string ⟨#[]⟩, .bool false] 45)) := by (repeat (first | exact Ext.refl _ | apply Ext.drew_left | apply Ext.drew | apply Ext.alloc))
      have HX3 := hid_mk hx3
      have hq3 : ∀ b j, b < wr.heap.size → b ≠ Ek → w3.cell? ⟨b, j, none⟩ = wr.cell? ⟨b, j, none⟩ ∧ w3.frozen? ⟨b, j, none⟩ = wr.frozen? ⟨b, j, none⟩ := fun b j hb hne => by
        have h1 : b < (wr.drew.alloc (.cells #[.string ⟨#[109, 97, 114, 107]⟩, .int .i64 0, .int .i64 0, .string ⟨#[]⟩, .bool false, .string ⟨#[98, 101, 104, 105, 110, 100]⟩, .int .i64 0, .int .i64 0, .string ⟨#[]⟩, .bool false] 45)).heap.size := Nat.lt_of_lt_of_le hb hx3.below.size
        have h2 := HG3.out.block b h1 (fun e => hne (by cases e; rfl))
        exact ⟨(World.cell?_of_block h2).trans (hx3.hc b j hb), (World.frozen?_of_block h2).trans (hx3.hf b j hb)⟩
      have k73 := (hq3 S (k * 8 + 7) hSl (Ne.symm hneS)).1.trans hk7
      have z73 := (hq3 S (k * 8 + 7) hSl (Ne.symm hneS)).2.trans z7
      have g63 := (hq3 w1.heap.size 6 hgl (Ne.symm hneG)).1.trans g6
      have hs3 := HG3.out.size
      rw [World.size_alloc] at hs3
      have hs3 : wr.heap.size + 1 ≤ w3.heap.size := hs3
      clear hx3 hq3
      clear hrun
      go_wp2
      go_region
      go_wp2
      go_roundw
      case rel =>
        have hSB : w.heap.size + 2 ≤ S := (HP.out.row.lt S rfl).1
        have hEB : w.heap.size + 2 ≤ Ek := ((HP.out.ents qs[k] (List.getElem_mem hkq)).1.lt Ek (by rw [hEk]; rfl)).1
        have hGS : w1.heap.size ≠ S := by
          have h := own_ne_cells HP.out.row HG.out (by decide)
          intro e; exact h (by rw [e]; rfl)
        refine ⟨k + 1, qs.set k (mkP qs[k].1, .slice (some ⟨E', 0, none⟩) (mk + 2) c'), by omega, by go_num, ?_, ?_, ?_, ?_, ?_⟩
        · rw [List.map_set, HQ.out]
          show (marked l k).set k (mkP qs[k].1) = _
          rw [HQK.out]
          exact marked_succ l k hlt
        · rw [List.length_set]; exact HP3.out
        · exact ((HG.out.ext HX3.out).grown HG3.out (by simp [Value.ownBlock]; omega)).grown (grown_set _ _ _ _) (by simp; omega)
        · exact ((HR.out.ext HX3.out).grown HG3.out (by simp [Value.ownBlock]; omega)).grown (grown_set _ _ _ _) (by simp; omega)
        · have h1 : Ext w (wr.drew.alloc (.cells #[.string ⟨#[109, 97, 114, 107]⟩, .int .i64 0, .int .i64 0, .string ⟨#[]⟩, .bool false, .string ⟨#[98, 101, 104, 105, 110, 100]⟩, .int .i64 0, .int .i64 0, .string ⟨#[]⟩, .bool false] 45)) := Ext.trans _ _ _ (Ext.of HB.out) HX3.out
          have h2 : Ext w w3 := Ext.of (h1.below.grown HG3.out h1.below.size (fun b hb => by simp [Value.ownBlock] at hb; omega))
          exact Ext.setD h2 (by omega)
      case measure => simp [intOf]; omega
    · have e : k = l.length := by omega
      subst e
      have hmk : marked l l.length = l.map mkP := by simp [marked]
      have hSB : w.heap.size + 2 ≤ S := (HP.out.row.lt S rfl).1
      have hGS : w1.heap.size ≠ S := by
        have h := own_ne_cells HP.out.row HG.out (by decide)
        intro e; exact h (by rw [e]; rfl)
      have hRl := HR.out.lt
      obtain ⟨Wm, hWm⟩ : ∃ Wm, Wm = wr.alloc (.cells #[.int .i64 77, .string ⟨#[]⟩, .string ⟨#[]⟩, .bool false, .int .i64 0, .int .u64 0, .int .u64 0, .slice none 0 0, .int .i64 78, .string ⟨#[]⟩, .string ⟨#[]⟩, .bool false, .int .i64 0, .int .u64 0, .int .u64 0, .slice none 0 0] 41) := ⟨_, rfl⟩
      have hxm : Ext wr Wm := by rw [hWm]; (repeat (first | exact Ext.refl _ | apply Ext.drew_left | apply Ext.drew | apply Ext.alloc))
      have hszm : Wm.heap.size = wr.heap.size + 1 := by rw [hWm]; simp
      obtain ⟨pv', w6, hrun6, hr6, hn6, hg6⟩ := append_partL (HP.out.ext hxm).row (HP.out.ext hxm).nn (b := wr.heap.size) (c := 2) (ps := [(prt77, .slice none 0 0), (prt78, .slice none 0 0)]) (by simp)
        (by intro q hq; simp at hq; rcases hq with rfl | rfl <;> rfl)
        (by
          intro j u hj
          rw [hWm]
          match j, hj with
          | 0, hj => simp [pcL, prt77, prt78] at hj; subst hj; go_simp
          | 1, hj => simp [pcL, prt77, prt78] at hj; subst hj; go_simp
          | 2, hj => simp [pcL, prt77, prt78] at hj; subst hj; go_simp
          | 3, hj => simp [pcL, prt77, prt78] at hj; subst hj; go_simp
          | 4, hj => simp [pcL, prt77, prt78] at hj; subst hj; go_simp
          | 5, hj => simp [pcL, prt77, prt78] at hj; subst hj; go_simp
          | 6, hj => simp [pcL, prt77, prt78] at hj; subst hj; go_simp
          | 7, hj => simp [pcL, prt77, prt78] at hj; subst hj; go_simp
          | 8, hj => simp [pcL, prt77, prt78] at hj; subst hj; go_simp
          | 9, hj => simp [pcL, prt77, prt78] at hj; subst hj; go_simp
          | 10, hj => simp [pcL, prt77, prt78] at hj; subst hj; go_simp
          | 11, hj => simp [pcL, prt77, prt78] at hj; subst hj; go_simp
          | 12, hj => simp [pcL, prt77, prt78] at hj; subst hj; go_simp
          | 13, hj => simp [pcL, prt77, prt78] at hj; subst hj; go_simp
          | 14, hj => simp [pcL, prt77, prt78] at hj; subst hj; go_simp
          | 15, hj => simp [pcL, prt77, prt78] at hj; subst hj; go_simp)
        (by have := HQL.out; simp; omega) (by omega)
      have BG6 : BoxF w6 w1.heap.size f t o li nu tu (.slice (some ⟨S, 0, none⟩) l.length c0) := (HG.out.ext hxm).grown hg6 (by simp [Value.ownBlock]; omega)
      have BR6 : BoxF w6 (w.heap.size + 1) 0 0 0 0 0 0 (.slice none 0 0) := (HR.out.ext hxm).grown hg6 (by simp [Value.ownBlock]; omega)
      have HE6 := hid_mk (show ∀ q ∈ qs, OwnE (w.heap.size + 2) w6 q.2 q.1.ents from fun q hq => by
        have h := (HP.out.ext hxm).ents q hq
        exact ⟨h.1.kept hg6 (own_apart h.1 (HP.out.ext hxm).row (by decide)), h.2⟩)
      have HX6 := hid_mk (show Ext w w6 from by
        have h1 := Ext.trans _ _ _ (Ext.of HB.out) hxm
        exact Ext.of (h1.below.grown hg6 h1.below.size (fun b hb => by simp [Value.ownBlock] at hb; omega)))
      obtain ⟨S6, c6, rfl⟩ := hn6
      have e6 : (qs ++ [(prt77, Value.slice none 0 0), (prt78, Value.slice none 0 0)]).length = l.length + 2 := by rw [List.length_append, HQL.out]; rfl
      rw [e6] at hrun6 hr6
      simp only [List.length_cons, List.length_nil, Nat.zero_add, Nat.reduceAdd, HQL.out] at hrun6
      rw [hWm] at hrun6
      have HR6 := hid_mk hr6
      have HBG6 := hid_mk BG6
      obtain ⟨b0, b1, b2, b3, b4, b5, b6, -, -, -, -, -, -, p6⟩ := BG6.at
      obtain ⟨r0, r1, r2, r3, r4, r5, r6, q0, q1, q2, q3, q4, q5, q6⟩ := BR6.at
      have hl6 := cell_lt b0
      have hlr := cell_lt r0
      have hGR : ¬ w1.heap.size = w.heap.size + 1 := by omega
      clear hr6 hg6 hWm hxm hszm BG6 BR6
      go_wp2
      refine bodyPost_ret (v := .agg #[.int .i64 f, .int .i64 t, .int .i64 o, .int .i64 li, .int .i64 nu, .int .i64 tu, .slice (some ⟨S6, 0, none⟩) (l.length + 2) c6]) (by unfold results; rw [Try.results23]; go_simp) rfl ⟨S6, c6, qs, rfl, by rw [HQ.out, hmk], ?_, ?_, ?_⟩
      · have h1 := HR6.out.kept (grown_set w6 w1.heap.size 6 (.slice (some ⟨S6, 0, none⟩) (l.length + 2) c6)) (Or.inr (own_ne_cells HR6.out HBG6.out (by decide)))
        have hR : w.heap.size + 1 < w.heap.size + 2 := by omega
        exact own_mono (own_set (own_set (own_set (own_set (own_set (own_set (own_set h1 hR) hR) hR) hR) hR) hR) hR) (by omega)
      · intro q hq
        have h := HE6.out q hq
        have h1 : OwnE (w.heap.size + 2) (w6.setCell ⟨w1.heap.size, 6, none⟩ (.slice (some ⟨S6, 0, none⟩) (l.length + 2) c6)) q.2 q.1.ents := ⟨h.1.kept (grown_set _ _ _ _) (Or.inr (own_ne_cells h.1 HBG6.out (by decide))), h.2⟩
        have hR : w.heap.size + 1 < w.heap.size + 2 := by omega
        exact (((((((h1.set hR).set hR).set hR).set hR).set hR).set hR).set hR).mono (by omega)
      · iterate 8 (with_reducible refine Ext.setD ?_ (by omega))
        exact HX6.out
end Go.Proofs.Ytgglbohcnlcagaa
