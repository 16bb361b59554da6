/- A frame that was handed out is spoilt: nothing that is older than its own memory changes. -/
import Derived.Test.YtiimoaplhhnklaaDoorFS
namespace Go.Proofs.YtiimoaplhhnklaaDoor
open Go.RowKit
set_option maxHeartbeats 8000000
set_option maxRecDepth 100000
set_option linter.unusedSimpArgs false
set_option linter.unusedVariables false
attribute [-go_sem] Builtin.append_

/-- Nothing below B is changed; blocks of other types than t are not changed; those of type t keep their lengths. -/
structure Chg (B : Nat) (t : TypeId) (w w' : World) : Prop where
  below : Below B w w'
  size : w.heap.size ≤ w'.heap.size
  other : ∀ (b : Nat) (cur : Array Value) (e : TypeId), w.heap[b]? = some (Obj.cells cur e (0, 0)) → e ≠ t → w'.heap[b]? = some (Obj.cells cur e (0, 0))
  same : ∀ (b : Nat) (cur : Array Value), w.heap[b]? = some (Obj.cells cur t (0, 0)) → ∃ cur' : Array Value, w'.heap[b]? = some (Obj.cells cur' t (0, 0)) ∧ cur'.size = cur.size
theorem Chg.refl (B : Nat) (t : TypeId) (w : World) : Chg B t w w := ⟨Below.refl _ _, Nat.le_refl _, fun _ _ _ h _ => h, fun _ cur h => ⟨cur, h, rfl⟩⟩
theorem Chg.trans {B : Nat} {t : TypeId} {w w' w'' : World} (h : Chg B t w w') (k : Chg B t w' w'') : Chg B t w w'' :=
  ⟨h.below.trans k.below, Nat.le_trans h.size k.size, fun b cur e hb he => k.other b cur e (h.other b cur e hb he) he, fun b cur hb => by
    obtain ⟨c1, h1, h2⟩ := h.same b cur hb
    obtain ⟨c2, h3, h4⟩ := k.same b c1 h1
    exact ⟨c2, h3, h4.trans h2⟩⟩
theorem Chg.of_ext {B : Nat} {t : TypeId} {w w' : World} (h : Ext w w') (hB : B ≤ w.heap.size) : Chg B t w w' :=
  ⟨h.below.mono hB, h.below.size, fun b cur e hb _ => (h.below.block b (Array.getElem?_eq_some_iff.1 hb).1).trans hb, fun b cur hb => ⟨cur, (h.below.block b (Array.getElem?_eq_some_iff.1 hb).1).trans hb, rfl⟩⟩
theorem Chg.set {B : Nat} {t : TypeId} {w : World} {S j : Nat} {u : Value} {cur : Array Value} (hB : B ≤ S) (h : w.heap[S]? = some (Obj.cells cur t (0, 0))) : Chg B t w (w.setCell ⟨S, j, none⟩ u) := by
  refine ⟨(Below.refl B w).setCell (p := ⟨S, j, none⟩) hB u, (grown_set w S j u).size, fun b c e hb he => ?_, fun b c hb => ?_⟩
  · have hne : b ≠ S := by
      intro e2; subst e2; rw [h] at hb; cases hb; exact he rfl
    exact ((grown_set w S j u).block b (Array.getElem?_eq_some_iff.1 hb).1 (by simp; exact hne)).trans hb
  · exact heap_setCell hb
theorem Shp.chg {B t' : Nat} {w w' : World} {e : TypeId} {size : Nat} {v : Value} {B' : Nat} (h : Shp B w e size v) (hx : Chg B' t' w w') : Shp B w' e size v := by
  obtain ⟨a, n, c, h1, h2, h3 | ⟨S, cur, h3, h4, h5, h6, h7⟩⟩ := h
  · exact ⟨a, n, c, h1, h2, .inl h3⟩
  · by_cases he : e = t'
    · subst he
      obtain ⟨cur', k1, k2⟩ := hx.same S cur h5
      exact ⟨a, n, c, h1, h2, .inr ⟨S, cur', h3, h4, k1, k2.trans h6, h7⟩⟩
    · exact ⟨a, n, c, h1, h2, .inr ⟨S, cur, h3, h4, hx.other S cur e h5 he, h6, h7⟩⟩
/-- A cell of such memory. -/
theorem shp_cell {B : Nat} {w : World} {e : TypeId} {size n c j : Nat} {a : Option Addr} (h : Shp B w e size (.slice a n c)) (hj : j < n * size) :
    ∃ S cur v, a = some ⟨S, 0, none⟩ ∧ B ≤ S ∧ w.heap[S]? = some (Obj.cells cur e (0, 0)) ∧ w.cell? ⟨S, j, none⟩ = some v ∧ w.frozen? ⟨S, j, none⟩ = false := by
  obtain ⟨a', n', c', h1, h2, h3 | ⟨S, cur, h3, h4, h5, h6, h7⟩⟩ := h
  · cases h1
    subst h3
    have : n = 0 := by omega
    subst this
    omega
  · cases h1
    have hlt : j < cur.size := by rw [h6]; exact Nat.lt_of_lt_of_le hj (Nat.mul_le_mul_right _ h2)
    exact ⟨S, cur, cur[j], h3, h4, h5, by simp [World.cell?, h5, hlt], by simp [World.frozen?, h5]⟩

/-- One more element, new, wherever the memory lies. -/
theorem append_shp {P : Program} {w : World} {B : Nat} {t ty e : TypeId} {i : TypeInfo} {z : Value} {size : Nat} (ht : P.underlying t = some (.slice e)) (hi : P.info? e = some i) (hz : i.zero = some z) (hs : i.size = size) (hby : i.bytes ≤ 128) (hzs : z.cells.size = size) (hsz : 0 < size)
    {a : Option Addr} {n c : Nat} (h : Shp B w e size (.slice a n c)) {src : Nat} {news : List Value} (hl : news.length = size) (hnews : ∀ j u, news[j]? = some u → w.cell? ⟨src, j, none⟩ = some u) (h1 : ∀ u ∈ news, u.oneCell' = true) (hn : n + 1 ≤ 1073741824) (hB : B ≤ w.heap.size) :
    ∃ a' c' w', (Builtin.append_ #[t, t] ty #[.slice a n c, .slice (some ⟨src, 0, none⟩) 1 1]).run P w = .ok (.slice a' (n + 1) c') w' ∧ Shp B w' e size (.slice a' (n + 1) c') ∧ Chg B e w w' := by
  subst hs
  have hb48 : Builtin.nextslicecap (n + 1) c * i.bytes ≤ 281474976710656 ∨ n + 1 ≤ c := by
    by_cases hroom : n + 1 ≤ c
    · exact .inr hroom
    · exact .inl (growslice_fits (by omega) (Nat.le_trans (Nat.mul_le_mul hn hby) (by decide)))
  have hnews' : ∀ j u, news[j]? = some u → w.cell? ((⟨src, 0, none⟩ : Addr).add j) = some u := fun j u hj => by rw [add_flat, Nat.zero_add]; exact hnews j u hj
  have hgc : ∀ old, grownCap w (n + 1) old e ≤ maxLen := fun old => grownCap_le_maxLen w (n + 1) old e (by unfold maxLen; omega)
  have hge : ∀ old, n + 1 ≤ grownCap w (n + 1) old e := fun old => _root_.Go.grownCap_ge w (n + 1) old e
  have hx : ∀ o, Ext w (w.drew.alloc o) := fun o => by (repeat (first | exact Ext.refl _ | apply Ext.drew_left | apply Ext.drew | apply Ext.alloc))
  obtain ⟨a', n', c', e0, h2, h3 | ⟨S, cur, h3, h4, h5, h6, h7⟩⟩ := h
  · cases e0
    subst h3
    obtain rfl : n = 0 := by omega
    rcases a with _ | ad
    · have hr := run_append_nil (P := P) (w := w) t ty e i z ht hi hz ⟨src, 0, none⟩ 1 1 news (by rw [hl, Nat.one_mul]) hnews' (by omega) (by omega) (by omega)
      refine ⟨_, _, _, hr, ⟨_, _, _, rfl, hge 0, .inr ⟨w.heap.size, _, rfl, hB, heap_alloc_new w.drew _, ?_, hgc 0⟩⟩, Chg.of_ext (hx _) hB⟩
      rw [Array.size_append, List.size_toArray, hl, size_zeroCells, hzs]
      have := hge 0
      generalize grownCap w (0 + 1) 0 e = q at *
      obtain ⟨r, rfl⟩ : ∃ r, q = r + 1 := ⟨q - 1, by omega⟩
      simp only [Nat.zero_add, Nat.add_sub_cancel]
      rw [Nat.add_mul]; omega
    · have hr := run_append_grow (P := P) (w := w) t ty e i z ht hi hz ad 0 0 [] (by simp) (by simp) ⟨src, 0, none⟩ 1 1 news (by rw [hl, Nat.one_mul]) hnews' (by omega) (by omega) (by rcases hb48 with h | h; exact h; omega)
      refine ⟨_, _, _, hr, ⟨_, _, _, rfl, hge 0, .inr ⟨w.heap.size, _, rfl, hB, heap_alloc_new w.drew _, ?_, hgc 0⟩⟩, Chg.of_ext (hx _) hB⟩
      rw [Array.size_append, Array.size_append, List.size_toArray, List.size_toArray, hl, size_zeroCells, hzs]
      have := hge 0
      generalize grownCap w (0 + 1) 0 e = q at *
      obtain ⟨r, rfl⟩ : ∃ r, q = r + 1 := ⟨q - 1, by omega⟩
      simp only [Nat.zero_add, Nat.add_sub_cancel, List.length_nil]
      rw [Nat.add_mul]; omega
  · cases e0
    subst h3
    have htk : (cur.toList.take (n * i.size)).length = n * i.size := by
      rw [List.length_take, Array.length_toList, h6]
      exact Nat.min_eq_left (Nat.mul_le_mul_right _ h2)
    by_cases hroom : n + 1 ≤ c
    · have hfit : n * i.size + news.length ≤ cur.size := by rw [hl, h6]; have := Nat.mul_le_mul_right i.size hroom; rw [Nat.add_mul] at this; omega
      have hr := run_append_room (P := P) w t ty e i ht hi S n c cur h5 ⟨src, 0, none⟩ 1 1 news (by rw [hl, Nat.one_mul]) hnews' h1 hroom hfit
      have hsize : (cur.toList.take (n * i.size) ++ news ++ cur.toList.drop (n * i.size + news.length)).toArray.size = cur.size := by
        simp only [List.size_toArray, List.length_append, htk, List.length_drop, Array.length_toList] at hfit ⊢
        have e9 : cur.toList.length = cur.size := Array.length_toList
        omega
      refine ⟨_, _, _, hr, ⟨_, _, _, rfl, hroom, .inr ⟨S, _, rfl, h4, setRow_heap w S cur _ e _ h5, by rw [hsize]; exact h6, h7⟩⟩, ?_, ?_, ?_, ?_⟩
      · exact (Below.refl B w).grown (row := some S) ⟨rfl, rfl, rfl, by simp, fun k _ hk => setRow_other w S k _ (fun e => hk (by rw [e]))⟩ hB (fun k hk => by cases hk; exact h4)
      · simp
      · intro b cb eb hb hne
        have : b ≠ S := by intro e2; subst e2; rw [h5] at hb; cases hb; exact hne rfl
        exact (setRow_other w S b _ this).trans hb
      · intro b cb hb
        by_cases hbS : b = S
        · subst hbS
          rw [h5] at hb
          cases hb
          exact ⟨_, setRow_heap w b cur _ e _ h5, hsize⟩
        · exact ⟨cb, (setRow_other w S b _ hbS).trans hb, rfl⟩
    · have hcells : ∀ j u, (cur.toList.take (n * i.size))[j]? = some u → w.cell? ((⟨S, 0, none⟩ : Addr).add j) = some u := fun j u hj => by
        rw [add_flat, Nat.zero_add]
        rw [List.getElem?_take] at hj
        split at hj
        · simp only [World.cell?, h5]
          simpa using hj
        · cases hj
      have hr := run_append_grow (P := P) (w := w) t ty e i z ht hi hz ⟨S, 0, none⟩ n c _ htk hcells ⟨src, 0, none⟩ 1 1 news (by rw [hl, Nat.one_mul]) hnews' (by omega) (by omega) (by rcases hb48 with h | h; exact h; omega)
      refine ⟨_, _, _, hr, ⟨_, _, _, rfl, hge c, .inr ⟨w.heap.size, _, rfl, hB, heap_alloc_new w.drew _, ?_, hgc c⟩⟩, Chg.of_ext (hx _) hB⟩
      rw [Array.size_append, Array.size_append, List.size_toArray, List.size_toArray, htk, hl, size_zeroCells, hzs]
      have := hge c
      generalize grownCap w (n + 1) c e = q at *
      obtain ⟨r, rfl⟩ : ∃ r, q = r + (n + 1) := ⟨q - (n + 1), by omega⟩
      simp only [Nat.add_sub_cancel]
      rw [Nat.add_mul, Nat.add_mul]; omega

theorem grown_ent {B : Nat} {w : World} {a : Option Addr} {n c : Nat} (h : Shp B w 55 5 (.slice a n c)) (hn : n + 1 ≤ 1073741824) (hB : B ≤ w.heap.size) :
    ∃ a' c' w', (Builtin.append_ #[22, 22] 22 #[.slice a n c, .slice (some ⟨w.heap.size, 0, none⟩) 1 1]).run Tryd.prog (w.alloc (.cells #[.string ⟨#[103, 114, 111, 119, 110]⟩, .int .i64 0, .int .i64 0, .string ⟨#[]⟩, .bool false] 55)) = .ok (.slice a' (n + 1) c') w' ∧ Shp B w' 55 5 (.slice a' (n + 1) c') ∧ Chg B 55 w w' := by
  obtain ⟨i, z, hi, hs, hby, hz, hzs⟩ := ent_info
  have hx : Ext w (w.alloc (.cells #[.string ⟨#[103, 114, 111, 119, 110]⟩, .int .i64 0, .int .i64 0, .string ⟨#[]⟩, .bool false] 55)) := by (repeat (first | exact Ext.refl _ | apply Ext.drew_left | apply Ext.drew | apply Ext.alloc))
  obtain ⟨a', c', w', h1, h2, h3⟩ := append_shp (ty := 22) Tryd.underlying22 hi hz hs hby hzs (by omega) (h.ext hx) (src := w.heap.size) (news := [.string ⟨#[103, 114, 111, 119, 110]⟩, .int .i64 0, .int .i64 0, .string ⟨#[]⟩, .bool false]) rfl
    (fun j u hj => by
      match j, hj with
      | 0, hj => simp at hj; subst hj; go_simp
      | 1, hj => simp at hj; subst hj; go_simp
      | 2, hj => simp at hj; subst hj; go_simp
      | 3, hj => simp at hj; subst hj; go_simp
      | 4, hj => simp at hj; subst hj; go_simp) (by intro u hu; simp at hu; rcases hu with rfl | rfl | rfl | rfl | rfl <;> rfl) hn (by simp; omega)
  exact ⟨a', c', w', h1, h2, (Chg.of_ext hx hB).trans h3⟩
end Go.Proofs.YtiimoaplhhnklaaDoor
