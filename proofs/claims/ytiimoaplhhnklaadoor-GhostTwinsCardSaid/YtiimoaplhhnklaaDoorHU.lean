/- Ghosts: what is lent, whether it is as it was, what was handed out and is spoilt. -/
import Derived.Test.YtiimoaplhhnklaaDoorHT
import Derived.Test.YtiimoaplhhnklaaDoorHF
import Derived.Test.YtiimoaplhhnklaaDoorFU
namespace Go.Proofs.YtiimoaplhhnklaaDoor
open Go.RowKit
set_option maxHeartbeats 8000000
set_option maxRecDepth 100000
set_option linter.unusedSimpArgs false
set_option linter.unusedVariables false
attribute [-go_sem] Builtin.append_
attribute [local go_sem ↓] eql_entE neq_entE
theorem en_GhLent : Enters Tryd.prog 7 := ⟨_, Tryd.func7, by kernel_rfl, rfl⟩
theorem en_GhStill : Enters Tryd.prog 10 := ⟨_, Tryd.func10, by kernel_rfl, rfl⟩
def blkL (a : Option Addr) : List Nat := match a with | some p => [p.block] | none => []
theorem append_shpX {P : Program} {w : World} {B : Nat} {t ty e : TypeId} {i : TypeInfo} {z : Value} {size : Nat} (ht : P.underlying t = some (.slice e)) (hi : P.info? e = some i) (hz : i.zero = some z) (hs : i.size = size) (hby : i.bytes ≤ 128) (hzs : z.cells.size = size) (hsz : 0 < size)
    {a : Option Addr} {n c : Nat} (h : Shp B w e size (.slice a n c)) {src : Nat} {news : List Value} (hl : news.length = size) (hnews : ∀ j u, news[j]? = some u → w.cell? ⟨src, j, none⟩ = some u) (h1 : ∀ u ∈ news, u.oneCell' = true) (hn : n + 1 ≤ 1073741824) (hB : B ≤ w.heap.size) :
    ∃ a' c' w', (Builtin.append_ #[t, t] ty #[.slice a n c, .slice (some ⟨src, 0, none⟩) 1 1]).run P w = .ok (.slice a' (n + 1) c') w' ∧ Shp B w' e size (.slice a' (n + 1) c') ∧ Xl (if c = 0 then [] else blkL a) w w' ∧ ∀ S', a' = some ⟨S', 0, none⟩ → (c ≠ 0 ∧ a = some ⟨S', 0, none⟩) ∨ w.heap.size ≤ S' := by
  subst hs
  have hb48 : Builtin.nextslicecap (n + 1) c * i.bytes ≤ 281474976710656 ∨ n + 1 ≤ c := by
    by_cases hroom : n + 1 ≤ c
    · exact .inr hroom
    · exact .inl (growslice_fits (by omega) (Nat.le_trans (Nat.mul_le_mul hn hby) (by decide)))
  have hnews' : ∀ j u, news[j]? = some u → w.cell? ((⟨src, 0, none⟩ : Addr).add j) = some u := fun j u hj => by rw [add_flat, Nat.zero_add]; exact hnews j u hj
  have hgc : ∀ old, grownCap w (n + 1) old e ≤ maxLen := fun old => grownCap_le_maxLen w (n + 1) old e (by unfold maxLen; omega)
  have hge : ∀ old, n + 1 ≤ grownCap w (n + 1) old e := fun old => _root_.Go.grownCap_ge w (n + 1) old e
  have hx : ∀ o, Ext w (w.drew.alloc o) := fun o => by (repeat (first | exact Ext.refl _ | apply Ext.drew_left | apply Ext.drew | apply Ext.alloc))
  obtain ⟨a', n', c', e0, h2, h3 | ⟨S, cur, h3, h4, h5, h6, h7⟩⟩ := h
  · cases e0
    subst h3
    obtain rfl : n = 0 := by omega
    rcases a with _ | ad
    · have hr := run_append_nil (P := P) (w := w) t ty e i z ht hi hz ⟨src, 0, none⟩ 1 1 news (by rw [hl, Nat.one_mul]) hnews' (by omega) (by omega) (by omega)
      refine ⟨_, _, _, hr, ⟨_, _, _, rfl, hge 0, .inr ⟨w.heap.size, _, rfl, hB, heap_alloc_new w.drew _, ?_, hgc 0⟩⟩, Xl.of (hx _), fun S' e => .inr (by cases e; exact Nat.le_refl _)⟩
      rw [Array.size_append, List.size_toArray, hl, size_zeroCells, hzs]
      have := hge 0
      generalize grownCap w (0 + 1) 0 e = q at *
      obtain ⟨r, rfl⟩ : ∃ r, q = r + 1 := ⟨q - 1, by omega⟩
      simp only [Nat.zero_add, Nat.add_sub_cancel]
      rw [Nat.add_mul]; omega
    · have hr := run_append_grow (P := P) (w := w) t ty e i z ht hi hz ad 0 0 [] (by simp) (by simp) ⟨src, 0, none⟩ 1 1 news (by rw [hl, Nat.one_mul]) hnews' (by omega) (by omega) (by rcases hb48 with h | h; exact h; omega)
      refine ⟨_, _, _, hr, ⟨_, _, _, rfl, hge 0, .inr ⟨w.heap.size, _, rfl, hB, heap_alloc_new w.drew _, ?_, hgc 0⟩⟩, Xl.of (hx _), fun S' e => .inr (by cases e; exact Nat.le_refl _)⟩
      rw [Array.size_append, Array.size_append, List.size_toArray, List.size_toArray, hl, size_zeroCells, hzs]
      have := hge 0
      generalize grownCap w (0 + 1) 0 e = q at *
      obtain ⟨r, rfl⟩ : ∃ r, q = r + 1 := ⟨q - 1, by omega⟩
      simp only [Nat.zero_add, Nat.add_sub_cancel, List.length_nil]
      rw [Nat.add_mul]; omega
  · cases e0
    subst h3
    have htk : (cur.toList.take (n * i.size)).length = n * i.size := by
      rw [List.length_take, Array.length_toList, h6]
      exact Nat.min_eq_left (Nat.mul_le_mul_right _ h2)
    by_cases hroom : n + 1 ≤ c
    · have hfit : n * i.size + news.length ≤ cur.size := by rw [hl, h6]; have := Nat.mul_le_mul_right i.size hroom; rw [Nat.add_mul] at this; omega
      have hr := run_append_room (P := P) w t ty e i ht hi S n c cur h5 ⟨src, 0, none⟩ 1 1 news (by rw [hl, Nat.one_mul]) hnews' h1 hroom hfit
      have hsize : (cur.toList.take (n * i.size) ++ news ++ cur.toList.drop (n * i.size + news.length)).toArray.size = cur.size := by
        simp only [List.size_toArray, List.length_append, htk, List.length_drop, Array.length_toList] at hfit ⊢
        have e9 : cur.toList.length = cur.size := Array.length_toList
        omega
      refine ⟨_, _, _, hr, ⟨_, _, _, rfl, hroom, .inr ⟨S, _, rfl, h4, setRow_heap w S cur _ e _ h5, by rw [hsize]; exact h6, h7⟩⟩, ⟨rfl, rfl, rfl, by simp, fun k hk hn => setRow_other w S k _ (by rintro rfl; exact hn (by rw [if_neg (by omega)]; simp [blkL]))⟩, fun S' e => .inl ⟨by omega, e⟩⟩
    · have hcells : ∀ j u, (cur.toList.take (n * i.size))[j]? = some u → w.cell? ((⟨S, 0, none⟩ : Addr).add j) = some u := fun j u hj => by
        rw [add_flat, Nat.zero_add]
        rw [List.getElem?_take] at hj
        split at hj
        · simp only [World.cell?, h5]
          simpa using hj
        · cases hj
      have hr := run_append_grow (P := P) (w := w) t ty e i z ht hi hz ⟨S, 0, none⟩ n c _ htk hcells ⟨src, 0, none⟩ 1 1 news (by rw [hl, Nat.one_mul]) hnews' (by omega) (by omega) (by rcases hb48 with h | h; exact h; omega)
      refine ⟨_, _, _, hr, ⟨_, _, _, rfl, hge c, .inr ⟨w.heap.size, _, rfl, hB, heap_alloc_new w.drew _, ?_, hgc c⟩⟩, Xl.of (hx _), fun S' e => .inr (by cases e; exact Nat.le_refl _)⟩
      rw [Array.size_append, Array.size_append, List.size_toArray, List.size_toArray, htk, hl, size_zeroCells, hzs]
      have := hge c
      generalize grownCap w (n + 1) c e = q at *
      obtain ⟨r, rfl⟩ : ∃ r, q = r + (n + 1) := ⟨q - (n + 1), by omega⟩
      simp only [Nat.add_sub_cancel]
      rw [Nat.add_mul, Nat.add_mul]; omega
theorem grown_entX {B : Nat} {w : World} {a : Option Addr} {n c : Nat} (h : Shp B w 55 5 (.slice a n c)) (hn : n + 1 ≤ 1073741824) (hB : B ≤ w.heap.size) :
    ∃ a' c' w', (Builtin.append_ #[22, 22] 22 #[.slice a n c, .slice (some ⟨w.heap.size, 0, none⟩) 1 1]).run Tryd.prog (w.alloc (.cells #[.string ⟨#[103, 114, 111, 119, 110]⟩, .int .i64 0, .int .i64 0, .string ⟨#[]⟩, .bool false] 55)) = .ok (.slice a' (n + 1) c') w' ∧ Shp B w' 55 5 (.slice a' (n + 1) c') ∧ Xl (if c = 0 then [] else blkL a) w w' ∧ ∀ S', a' = some ⟨S', 0, none⟩ → (c ≠ 0 ∧ a = some ⟨S', 0, none⟩) ∨ w.heap.size ≤ S' := by
  obtain ⟨i, z, hi, hs, hby, hz, hzs⟩ := ent_info
  have hx : Ext w (w.alloc (.cells #[.string ⟨#[103, 114, 111, 119, 110]⟩, .int .i64 0, .int .i64 0, .string ⟨#[]⟩, .bool false] 55)) := by (repeat (first | exact Ext.refl _ | apply Ext.drew_left | apply Ext.drew | apply Ext.alloc))
  obtain ⟨a', c', w', h1, h2, h3, h4⟩ := append_shpX (ty := 22) Tryd.underlying22 hi hz hs hby hzs (by omega) (h.ext hx) (src := w.heap.size) (news := [.string ⟨#[103, 114, 111, 119, 110]⟩, .int .i64 0, .int .i64 0, .string ⟨#[]⟩, .bool false]) rfl
    (fun j u hj => by
      match j, hj with
      | 0, hj => simp at hj; subst hj; go_simp
      | 1, hj => simp at hj; subst hj; go_simp
      | 2, hj => simp at hj; subst hj; go_simp
      | 3, hj => simp at hj; subst hj; go_simp
      | 4, hj => simp at hj; subst hj; go_simp) (by intro u hu; simp at hu; rcases hu with rfl | rfl | rfl | rfl | rfl <;> rfl) hn (by simp; omega)
  exact ⟨a', c', w', h1, h2, Xl.trans _ _ _ (Xl.of hx) h3, fun S' e => (h4 S' e).imp id (fun h => by simp at h; omega)⟩
theorem shp_cells5 {B : Nat} {w : World} {n c i : Nat} {a : Option Addr} (h : Shp B w 55 5 (.slice a n c)) (hi : i < n) :
    ∃ S cur, a = some ⟨S, 0, none⟩ ∧ B ≤ S ∧ w.heap[S]? = some (Obj.cells cur 55 (0, 0)) ∧ ∀ r, r < 5 → (∃ v, w.cell? ⟨S, i * 5 + r, none⟩ = some v) ∧ w.frozen? ⟨S, i * 5 + r, none⟩ = false := by
  obtain ⟨a', n', c', h1, h2, h3 | ⟨S, cur, h3, h4, h5, h6, h7⟩⟩ := h
  · cases h1
    subst h3
    omega
  · cases h1
    refine ⟨S, cur, h3, h4, h5, fun r hr => ?_⟩
    have hlt : i * 5 + r < cur.size := by rw [h6]; omega
    exact ⟨⟨cur[i * 5 + r], by simp [World.cell?, h5, hlt]⟩, by simp [World.frozen?, h5]⟩
end Go.Proofs.YtiimoaplhhnklaaDoor
