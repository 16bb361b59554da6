/- Ghosts: what is lent, whether it is as it was, what was handed out and is spoilt. -/
import Derived.Test.YtiimoaplhhnklaaHT
import Derived.Test.YtiimoaplhhnklaaHF
import Derived.Test.YtiimoaplhhnklaaFU
namespace Go.Proofs.Ytiimoaplhhnklaa
open Go.RowKit
set_option maxHeartbeats 8000000
set_option maxRecDepth 100000
set_option linter.unusedSimpArgs false
set_option linter.unusedVariables false
attribute [-go_sem] Builtin.append_
attribute [local go_sem ↓] eql_entE neq_entE
theorem en_GhLent : Enters Try.prog 35 := ⟨_, Try.func35, by kernel_rfl, rfl⟩
theorem en_GhStill : Enters Try.prog 37 := ⟨_, Try.func37, by kernel_rfl, rfl⟩
theorem en_GhSpoil : Enters Try.prog 38 := ⟨_, Try.func38, by kernel_rfl, rfl⟩
theorem en_GhBeyond : Enters Try.prog 9 := ⟨_, Try.func9, by kernel_rfl, rfl⟩
theorem en_GhStep : Enters Try.prog 12 := ⟨_, Try.func12, by kernel_rfl, rfl⟩
def blkL (a : Option Addr) : List Nat := match a with | some p => [p.block] | none => []
theorem append_shpX {P : Program} {w : World} {B : Nat} {t ty e : TypeId} {i : TypeInfo} {z : Value} {size : Nat} (ht : P.underlying t = some (.slice e)) (hi : P.info? e = some i) (hz : i.zero = some z) (hs : i.size = size) (hby : i.bytes ≤ 128) (hzs : z.cells.size = size) (hsz : 0 < size)
    {a : Option Addr} {n c : Nat} (h : Shp B w e size (.slice a n c)) {src : Nat} {news : List Value} (hl : news.length = size) (hnews : ∀ j u, news[j]? = some u → w.cell? ⟨src, j, none⟩ = some u) (h1 : ∀ u ∈ news, u.oneCell' = true) (hn : n + 1 ≤ 1073741824) (hB : B ≤ w.heap.size) :
    ∃ a' c' w', (Builtin.append_ #[t, t] ty #[.slice a n c, .slice (some ⟨src, 0, none⟩) 1 1]).run P w = .ok (.slice a' (n + 1) c') w' ∧ Shp B w' e size (.slice a' (n + 1) c') ∧ Xl (if c = 0 then [] else blkL a) w w' ∧ ∀ S', a' = some ⟨S', 0, none⟩ → (c ≠ 0 ∧ a = some ⟨S', 0, none⟩) ∨ w.heap.size ≤ S' := by
  subst hs
  have hb48 : Builtin.nextslicecap (n + 1) c * i.bytes ≤ 281474976710656 ∨ n + 1 ≤ c := by
    by_cases hroom : n + 1 ≤ c
    · exact .inr hroom
    · exact .inl (growslice_fits (by omega) (Nat.le_trans (Nat.mul_le_mul hn hby) (by decide)))
  have hnews' : ∀ j u, news[j]? = some u → w.cell? ((⟨src, 0, none⟩ : Addr).add j) = some u := fun j u hj => by rw [add_flat, Nat.zero_add]; exact hnews j u hj
  have hgc : ∀ old, grownCap w (n + 1) old e ≤ maxLen := fun old => grownCap_le_maxLen w (n + 1) old e (by unfold maxLen; omega)
  have hge : ∀ old, n + 1 ≤ grownCap w (n + 1) old e := fun old => _root_.Go.grownCap_ge w (n + 1) old e
  have hx : ∀ o, Ext w (w.drew.alloc o) := fun o => by (repeat (first | exact Ext.refl _ | apply Ext.drew_left | apply Ext.drew | apply Ext.alloc))
  obtain ⟨a', n', c', e0, h2, h3 | ⟨S, cur, h3, h4, h5, h6, h7⟩⟩ := h
  · cases e0
    subst h3
    obtain rfl : n = 0 := by omega
    rcases a with _ | ad
    · have hr := run_append_nil (P := P) (w := w) t ty e i z ht hi hz ⟨src, 0, none⟩ 1 1 news (by rw [hl, Nat.one_mul]) hnews' (by omega) (by omega) (by omega)
      refine ⟨_, _, _, hr, ⟨_, _, _, rfl, hge 0, .inr ⟨w.heap.size, _, rfl, hB, heap_alloc_new w.drew _, ?_, hgc 0⟩⟩, Xl.of (hx _), fun S' e => .inr (by cases e; exact Nat.le_refl _)⟩
      rw [Array.size_append, List.size_toArray, hl, size_zeroCells, hzs]
      have := hge 0
      generalize grownCap w (0 + 1) 0 e = q at *
      obtain ⟨r, rfl⟩ : ∃ r, q = r + 1 := ⟨q - 1, by omega⟩
      simp only [Nat.zero_add, Nat.add_sub_cancel]
      rw [Nat.add_mul]; omega
    · have hr := run_append_grow (P := P) (w := w) t ty e i z ht hi hz ad 0 0 [] (by simp) (by simp) ⟨src, 0, none⟩ 1 1 news (by rw [hl, Nat.one_mul]) hnews' (by omega) (by omega) (by rcases hb48 with h | h; exact h; omega)
      refine ⟨_, _, _, hr, ⟨_, _, _, rfl, hge 0, .inr ⟨w.heap.size, _, rfl, hB, heap_alloc_new w.drew _, ?_, hgc 0⟩⟩, Xl.of (hx _), fun S' e => .inr (by cases e; exact Nat.le_refl _)⟩
      rw [Array.size_append, Array.size_append, List.size_toArray, List.size_toArray, hl, size_zeroCells, hzs]
      have := hge 0
      generalize grownCap w (0 + 1) 0 e = q at *
      obtain ⟨r, rfl⟩ : ∃ r, q = r + 1 := ⟨q - 1, by omega⟩
      simp only [Nat.zero_add, Nat.add_sub_cancel, List.length_nil]
      rw [Nat.add_mul]; omega
  · cases e0
    subst h3
    have htk : (cur.toList.take (n * i.size)).length = n * i.size := by
      rw [List.length_take, Array.length_toList, h6]
      exact Nat.min_eq_left (Nat.mul_le_mul_right _ h2)
    by_cases hroom : n + 1 ≤ c
    · have hfit : n * i.size + news.length ≤ cur.size := by rw [hl, h6]; have := Nat.mul_le_mul_right i.size hroom; rw [Nat.add_mul] at this; omega
      have hr := run_append_room (P := P) w t ty e i ht hi S n c cur h5 ⟨src, 0, none⟩ 1 1 news (by rw [hl, Nat.one_mul]) hnews' h1 hroom hfit
      have hsize : (cur.toList.take (n * i.size) ++ news ++ cur.toList.drop (n * i.size + news.length)).toArray.size = cur.size := by
        simp only [List.size_toArray, List.length_append, htk, List.length_drop, Array.length_toList] at hfit ⊢
        have e9 : cur.toList.length = cur.size := Array.length_toList
        omega
      refine ⟨_, _, _, hr, ⟨_, _, _, rfl, hroom, .inr ⟨S, _, rfl, h4, setRow_heap w S cur _ e _ h5, by rw [hsize]; exact h6, h7⟩⟩, ⟨rfl, rfl, rfl, by simp, fun k hk hn => setRow_other w S k _ (by rintro rfl; exact hn (by rw [if_neg (by omega)]; simp [blkL]))⟩, fun S' e => .inl ⟨by omega, e⟩⟩
    · have hcells : ∀ j u, (cur.toList.take (n * i.size))[j]? = some u → w.cell? ((⟨S, 0, none⟩ : Addr).add j) = some u := fun j u hj => by
        rw [add_flat, Nat.zero_add]
        rw [List.getElem?_take] at hj
        split at hj
        · simp only [World.cell?, h5]
          simpa using hj
        · cases hj
      have hr := run_append_grow (P := P) (w := w) t ty e i z ht hi hz ⟨S, 0, none⟩ n c _ htk hcells ⟨src, 0, none⟩ 1 1 news (by rw [hl, Nat.one_mul]) hnews' (by omega) (by omega) (by rcases hb48 with h | h; exact h; omega)
      refine ⟨_, _, _, hr, ⟨_, _, _, rfl, hge c, .inr ⟨w.heap.size, _, rfl, hB, heap_alloc_new w.drew _, ?_, hgc c⟩⟩, Xl.of (hx _), fun S' e => .inr (by cases e; exact Nat.le_refl _)⟩
      rw [Array.size_append, Array.size_append, List.size_toArray, List.size_toArray, htk, hl, size_zeroCells, hzs]
      have := hge c
      generalize grownCap w (n + 1) c e = q at *
      obtain ⟨r, rfl⟩ : ∃ r, q = r + (n + 1) := ⟨q - (n + 1), by omega⟩
      simp only [Nat.add_sub_cancel]
      rw [Nat.add_mul, Nat.add_mul]; omega
theorem grown_entX {B : Nat} {w : World} {a : Option Addr} {n c : Nat} (h : Shp B w 31 5 (.slice a n c)) (hn : n + 1 ≤ 1073741824) (hB : B ≤ w.heap.size) :
    ∃ a' c' w', (Builtin.append_ #[32, 32] 32 #[.slice a n c, .slice (some ⟨w.heap.size, 0, none⟩) 1 1]).run Try.prog (w.alloc (.cells #[.string ⟨#[103, 114, 111, 119, 110]⟩, .int .i64 0, .int .i64 0, .string ⟨#[]⟩, .bool false] 31)) = .ok (.slice a' (n + 1) c') w' ∧ Shp B w' 31 5 (.slice a' (n + 1) c') ∧ Xl (if c = 0 then [] else blkL a) w w' ∧ ∀ S', a' = some ⟨S', 0, none⟩ → (c ≠ 0 ∧ a = some ⟨S', 0, none⟩) ∨ w.heap.size ≤ S' := by
  obtain ⟨i, z, hi, hs, hby, hz, hzs⟩ := ent_info
  have hx : Ext w (w.alloc (.cells #[.string ⟨#[103, 114, 111, 119, 110]⟩, .int .i64 0, .int .i64 0, .string ⟨#[]⟩, .bool false] 31)) := by (repeat (first | exact Ext.refl _ | apply Ext.drew_left | apply Ext.drew | apply Ext.alloc))
  obtain ⟨a', c', w', h1, h2, h3, h4⟩ := append_shpX (ty := 32) Try.underlying32 hi hz hs hby hzs (by omega) (h.ext hx) (src := w.heap.size) (news := [.string ⟨#[103, 114, 111, 119, 110]⟩, .int .i64 0, .int .i64 0, .string ⟨#[]⟩, .bool false]) rfl
    (fun j u hj => by
      match j, hj with
      | 0, hj => simp at hj; subst hj; go_simp
      | 1, hj => simp at hj; subst hj; go_simp
      | 2, hj => simp at hj; subst hj; go_simp
      | 3, hj => simp at hj; subst hj; go_simp
      | 4, hj => simp at hj; subst hj; go_simp) (by intro u hu; simp at hu; rcases hu with rfl | rfl | rfl | rfl | rfl <;> rfl) hn (by simp; omega)
  exact ⟨a', c', w', h1, h2, Xl.trans _ _ _ (Xl.of hx) h3, fun S' e => (h4 S' e).imp id (fun h => by simp at h; omega)⟩
theorem shp_cells5 {B : Nat} {w : World} {n c i : Nat} {a : Option Addr} (h : Shp B w 31 5 (.slice a n c)) (hi : i < n) :
    ∃ S cur, a = some ⟨S, 0, none⟩ ∧ B ≤ S ∧ w.heap[S]? = some (Obj.cells cur 31 (0, 0)) ∧ ∀ r, r < 5 → (∃ v, w.cell? ⟨S, i * 5 + r, none⟩ = some v) ∧ w.frozen? ⟨S, i * 5 + r, none⟩ = false := by
  obtain ⟨a', n', c', h1, h2, h3 | ⟨S, cur, h3, h4, h5, h6, h7⟩⟩ := h
  · cases h1
    subst h3
    omega
  · cases h1
    refine ⟨S, cur, h3, h4, h5, fun r hr => ?_⟩
    have hlt : i * 5 + r < cur.size := by rw [h6]; omega
    exact ⟨⟨cur[i * 5 + r], by simp [World.cell?, h5, hlt]⟩, by simp [World.frozen?, h5]⟩
theorem ghSpoil_any {B : Nat} {w : World} {a : Option Addr} {n c : Nat} (h : Shp B w 31 5 (.slice a n c)) (L : List Nat) (hL : ∀ S, a = some ⟨S, 0, none⟩ → c ≠ 0 → S ∈ L) (hn : n ≤ 536870912) (hB : B ≤ w.heap.size) :
    Calls Try.prog 38 #[.slice a n c] w fun e w' => (∃ v, e = .returned v) ∧ Xl L w w' := by
  have HSH := hid_mk h
  clear h
  go_enter Try.func38, Try.ntmps38
  go_wp2
  go_loopw [2] (fun i wr => ∃ k : Nat, k ≤ n ∧ i = .int .i64 (k : Int) ∧ Shp B wr 31 5 (.slice a n c) ∧ Xl L w wr) (fun i _ => n - (intOf i).toNat)
  case atStart => exact ⟨0, Nat.zero_le _, rfl, HSH.out, Xl.refl _⟩
  case round =>
    obtain ⟨k, hk, rfl, hsh, hx⟩ := hrel
    have HS2 := hid_mk hsh
    have HX := hid_mk hx
    clear hsh hx
    by_cases hlt : k < n
    · obtain ⟨S, cur, rfl, hSB, hSH, hc⟩ := shp_cells5 HS2.out hlt
      obtain ⟨⟨v0, k0⟩, z0⟩ := hc 0 (by omega)
      obtain ⟨⟨v1, k1⟩, z1⟩ := hc 1 (by omega)
      obtain ⟨⟨v2, k2⟩, z2⟩ := hc 2 (by omega)
      obtain ⟨⟨v3, k3⟩, z3⟩ := hc 3 (by omega)
      obtain ⟨⟨v4, k4⟩, z4⟩ := hc 4 (by omega)
      simp only [Nat.add_zero] at k0 z0
      have hSl := cell_lt k0
      have hk1 : (k : Int) < (n : Int) := by omega
      have hk00 : (0 : Int) ≤ (k : Int) := by omega
      have HW := hid_mk (show wrap64 ((k : Int) + 1) = (k : Int) + 1 from w64in (by omega))
      have hSL : S ∈ L := hL S rfl (by
        obtain ⟨a9, n9, c9, e9, h9, -⟩ := HS2.out
        cases e9
        omega)
      clear hc hSH
      go_wp2
      go_roundw
      case rel => exact ⟨k + 1, hlt, (by first | exact congrArg (Value.int .i64) HW.out | rfl), ((((HS2.out.set).set).set).set).set, ((((HX.out.set hSL).set hSL).set hSL).set hSL).set hSL⟩
      case measure => (try simp only [HW.out]); simp [intOf]; omega
    · obtain rfl : k = n := by omega
      have hmm : ¬ ((k : Nat) : Int) < (k : Int) := by omega
      clear hlt hk
      go_wp2
      go_loopw [0, 3] (fun v i wi => ∃ (q : Nat) (a' : Option Addr) (c' : Nat), q ≤ 5 ∧ i = .int .i64 (q : Int) ∧ v = .slice a' (k + q) c' ∧ Shp B wi 31 5 (.slice a' (k + q) c') ∧ Xl L w wi ∧ ∀ S', a' = some ⟨S', 0, none⟩ → c' ≠ 0 → S' ∈ L ∨ w.heap.size ≤ S') (fun _ i _ => 5 - (intOf i).toNat)
      case atStart => exact ⟨0, _, _, by omega, rfl, rfl, HS2.out, HX.out, fun S' e hc => .inl (hL S' e hc)⟩
      case round =>
        clear HS2 HX
        obtain ⟨q, a', c', hq, rfl, rfl, hsh, hx, hold⟩ := hrel
        have HX := hid_mk (And.intro hx hold)
        have hz := hx.size
        clear hx hold
        by_cases hqt : q < 5
        · obtain ⟨a2, c2, w2, hrun, hsh2, hxl2, hold2⟩ := grown_entX hsh (by omega) (by omega)
          have HSH2 := hid_mk hsh2
          have HX2 := hid_mk (show Xl L w w2 ∧ ∀ S', a2 = some ⟨S', 0, none⟩ → c2 ≠ 0 → S' ∈ L ∨ w.heap.size ≤ S' from by
            refine ⟨?_, fun S' e hc2 => ?_⟩
            · have hxx := HX.out.1
              refine ⟨hxl2.os.trans hxx.os, hxl2.tape.trans hxx.tape, hxl2.output.trans hxx.output, Nat.le_trans hz hxl2.size, fun x hx hn' => (hxl2.block x (by omega) (fun hm => ?_)).trans (hxx.block x hx hn')⟩
              split at hm
              · cases hm
              · rename_i hc0
                obtain ⟨ad, n0, c0, e0, -, h0 | ⟨S, cur, h3, -⟩⟩ := hsh
                · cases e0
                  exact hc0 h0
                · cases e0
                  subst h3
                  simp [blkL] at hm
                  rcases HX.out.2 S rfl hc0 with e | e
                  · exact hn' (by rw [hm]; exact e)
                  · omega
            · rcases hold2 S' e with ⟨hc, e⟩ | e
              · exact HX.out.2 S' e hc
              · exact .inr (by omega))
          have hq1 : (q : Int) < 5 := by omega
          clear hsh hsh2 hxl2 hold2
          go_wp2
          go_roundw
          case rel => exact ⟨q + 1, a2, c2, by omega, by go_num, rfl, HSH2.out, HX2.out.1, HX2.out.2⟩
          case measure => simp [intOf]; omega
        · have hq1 : ¬ (q : Int) < 5 := by omega
          go_wp2
          go_end0
          exact ⟨⟨_, rfl⟩, HX.out.1⟩
end Go.Proofs.Ytiimoaplhhnklaa
