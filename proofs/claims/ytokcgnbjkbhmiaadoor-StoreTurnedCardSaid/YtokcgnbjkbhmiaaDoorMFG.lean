/- A list of parts, cloned. -/
import Derived.Test.YtokcgnbjkbhmiaaDoorMF4
import Derived.Laws.Append
import Derived.Lib.SliceRun
namespace Go.Proofs.YtokcgnbjkbhmiaaDoor
open Go.RowKit
set_option maxHeartbeats 4000000
set_option maxRecDepth 100000
set_option linter.unusedSimpArgs false
set_option linter.unusedVariables false
theorem arr_head' {xs ys : Array Value} {i : Nat} {v : Value} (h : xs[i]? = some v) : (xs ++ ys)[i]? = some v := by
  have hi : i < xs.size := (Array.getElem?_eq_some_iff.1 h).1
  rw [Array.getElem?_append_left hi]; exact h
theorem prt_cells {w : World} {b o : Nat} {l : List Prt} (hcl : ∀ i, (h : i < l.length) → ∃ sv, PrtAt w b (o + i * 8) sv l[i]) (j : Nat) (hj : j < l.length * 8) : ∃ v, w.cell? ⟨b, o + j, none⟩ = some v := by
  obtain ⟨sv, hA⟩ := hcl (j / 8) (by omega)
  have hr : j % 8 < 8 := Nat.mod_lt _ (by omega)
  have e : o + j = o + j / 8 * 8 + j % 8 := by omega
  rw [e]
  generalize o + j / 8 * 8 = q at *
  generalize j % 8 = r at *
  match r, hr with
  | 0, _ => exact ⟨_, hA.c0⟩
  | 1, _ => exact ⟨_, hA.c1⟩
  | 2, _ => exact ⟨_, hA.c2⟩
  | 3, _ => exact ⟨_, hA.c3⟩
  | 4, _ => exact ⟨_, hA.c4⟩
  | 5, _ => exact ⟨_, hA.c5⟩
  | 6, _ => exact ⟨_, hA.c6⟩
  | 7, _ => exact ⟨_, hA.c7⟩
theorem eql_parts_nil (a : Option Addr) (n c : Nat) (w : World) : (binOp .eql 26 (.slice a n c) (.slice none 0 0)).run Tryd.prog w = .ok (.bool a.isNone) w :=
  Go.Lib.run_eql_slice_nil (P := Tryd.prog) w 26 34 a n c 0 0 Tryd.underlying26
/-- The cells of a row, as they lie. -/
def rowOf (w : World) (b o k : Nat) : List Value := (List.range k).map fun j => (w.cell? ⟨b, o + j, none⟩).getD undef
def AllCells (w : World) (b o k : Nat) : Prop := ∀ j, j < k → ∃ v, w.cell? ⟨b, o + j, none⟩ = some v
def partPad (k : Nat) : Array Value := Builtin.zeroCells #[.int .i64 0, .string ⟨#[]⟩, .string ⟨#[]⟩, .bool false, .int .i64 0, .int .u64 0, .int .u64 0, .slice none 0 0] k
theorem rowOf_get {w : World} {b o k j : Nat} {v : Value} (h : (rowOf w b o k)[j]? = some v) (hA : AllCells w b o k) : w.cell? ⟨b, o + j, none⟩ = some v := by
  unfold rowOf at h
  rw [List.getElem?_map] at h
  cases hr : (List.range k)[j]? with
  | none => rw [hr] at h; cases h
  | some x =>
    rw [hr] at h
    have hj : j < k := by
      have := (List.getElem?_eq_some_iff.1 hr).1; simpa using this
    have hx : x = j := by
      have := (List.getElem?_eq_some_iff.1 hr).2; simpa using this.symm
    subst hx
    obtain ⟨u, hu⟩ := hA _ hj
    simp only [Option.map_some, hu, Option.getD_some, Option.some.injEq] at h
    rw [hu, h]
theorem append_parts (w : World) (h b o n c : Nat) (hn : 0 < n) (hm : n ≤ 1073741824) (hA : AllCells w b o (n * 8)) :
    (Builtin.append_ #[26, 26] 26 #[.slice (some ⟨h, 0, none⟩) 0 0, .slice (some ⟨b, o, none⟩) n c]).run Tryd.prog w =
      .ok (.slice (some ⟨w.heap.size, 0, none⟩) n (grownCap w n 0 34)) (w.drew.alloc (.cells ((rowOf w b o (n * 8)).toArray ++ partPad (grownCap w n 0 34 - n)) 34)) := by
  have hb : ∃ i z, Tryd.prog.info? 34 = some i ∧ i.size = 8 ∧ i.bytes ≤ 128 ∧ i.zero = some z ∧ z.cells = #[.int .i64 0, .string ⟨#[]⟩, .string ⟨#[]⟩, .bool false, .int .i64 0, .int .u64 0, .int .u64 0, .slice none 0 0] := ⟨_, _, rfl, rfl, by decide, rfl, rfl⟩
  obtain ⟨i, z, hi, hs, hby, hz, hc⟩ := hb
  have h0 := run_append_grow (P := Tryd.prog) (w := w) 26 26 34 i z Tryd.underlying26 hi hz ⟨h, 0, none⟩ 0 0 [] (by simp) (by simp) ⟨b, o, none⟩ n c (rowOf w b o (n * 8)) (by rw [hs]; simp [rowOf])
    (fun j v hj => by
      have := rowOf_get hj hA
      unfold Addr.add
      split
      · rename_i e; subst e; simpa using this
      · exact this) (by omega) (by omega) (by
      rw [Nat.zero_add, nextslicecap_zero hn]
      exact Nat.le_trans (Nat.mul_le_mul hm hby) (by decide))
  rw [hc] at h0
  simpa [partPad] using h0
theorem append_parts0 (w : World) (h : Nat) (b : Addr) (c : Nat) :
    (Builtin.append_ #[26, 26] 26 #[.slice (some ⟨h, 0, none⟩) 0 0, .slice (some b) 0 c]).run Tryd.prog w = .ok (.slice (some ⟨h, 0, none⟩) 0 0) w := by
  go_simp
attribute [local go_sem ↓] eql_parts_nil append_parts append_parts0
theorem grownCap_ge (w : World) (n o e : Nat) : n ≤ grownCap w n o e := Nat.le_add_right _ _
theorem eql_ents_nil (a : Option Addr) (n c : Nat) (w : World) : (binOp .eql 22 (.slice a n c) (.slice none 0 0)).run Tryd.prog w = .ok (.bool a.isNone) w :=
  Go.Lib.run_eql_slice_nil (P := Tryd.prog) w 22 57 a n c 0 0 Tryd.underlying22
def entPad (k : Nat) : Array Value := Builtin.zeroCells #[.string ⟨#[]⟩, .int .i64 0, .int .i64 0, .string ⟨#[]⟩, .bool false] k
theorem append_ents (w : World) (h b o n c : Nat) (hn : 0 < n) (hm : n ≤ 1073741824) (hA : AllCells w b o (n * 5)) :
    (Builtin.append_ #[22, 22] 22 #[.slice (some ⟨h, 0, none⟩) 0 0, .slice (some ⟨b, o, none⟩) n c]).run Tryd.prog w =
      .ok (.slice (some ⟨w.heap.size, 0, none⟩) n (grownCap w n 0 57)) (w.drew.alloc (.cells ((rowOf w b o (n * 5)).toArray ++ entPad (grownCap w n 0 57 - n)) 57)) := by
  have hb : ∃ i z, Tryd.prog.info? 57 = some i ∧ i.size = 5 ∧ i.bytes ≤ 128 ∧ i.zero = some z ∧ z.cells = #[.string ⟨#[]⟩, .int .i64 0, .int .i64 0, .string ⟨#[]⟩, .bool false] := ⟨_, _, rfl, rfl, by decide, rfl, rfl⟩
  obtain ⟨i, z, hi, hs, hby, hz, hc⟩ := hb
  have h0 := run_append_grow (P := Tryd.prog) (w := w) 22 22 57 i z Tryd.underlying22 hi hz ⟨h, 0, none⟩ 0 0 [] (by simp) (by simp) ⟨b, o, none⟩ n c (rowOf w b o (n * 5)) (by rw [hs]; simp [rowOf])
    (fun j v hj => by
      have := rowOf_get hj hA
      unfold Addr.add
      split
      · rename_i e; subst e; simpa using this
      · exact this) (by omega) (by omega) (by
      rw [Nat.zero_add, nextslicecap_zero hn]
      exact Nat.le_trans (Nat.mul_le_mul hm hby) (by decide))
  rw [hc] at h0
  simpa [entPad] using h0
theorem append_ents0 (w : World) (h : Nat) (b : Addr) (c : Nat) :
    (Builtin.append_ #[22, 22] 22 #[.slice (some ⟨h, 0, none⟩) 0 0, .slice (some b) 0 c]).run Tryd.prog w = .ok (.slice (some ⟨h, 0, none⟩) 0 0) w := by
  go_simp
attribute [local go_sem ↓] eql_ents_nil append_ents append_ents0
attribute [-go_sem] Builtin.append_
/-- A slice's memory, where it has any: a whole block of one's own, not older than B; what stands in it is left open. -/
def Shp (B : Nat) (w : World) (e : TypeId) (size : Nat) (v : Value) : Prop :=
  ∃ a n c, v = .slice a n c ∧ n ≤ c ∧ (c = 0 ∨ ∃ S cur, a = some ⟨S, 0, none⟩ ∧ B ≤ S ∧ w.heap[S]? = some (.cells cur e (0, 0)) ∧ cur.size = c * size ∧ c ≤ maxLen)
theorem Shp.ext {B : Nat} {w w' : World} {e : TypeId} {size : Nat} {v : Value} (h : Shp B w e size v) (hx : Ext w w') : Shp B w' e size v := by
  obtain ⟨a, n, c, h1, h2, h3 | ⟨S, cur, h3, h4, h5, h6, h7⟩⟩ := h
  · exact ⟨a, n, c, h1, h2, .inl h3⟩
  · exact ⟨a, n, c, h1, h2, .inr ⟨S, cur, h3, h4, (hx.below.block S (Array.getElem?_eq_some_iff.1 h5).1).trans h5, h6, h7⟩⟩
theorem heap_setCell {w : World} {S R j : Nat} {u : Value} {cur : Array Value} {e : TypeId} (h : w.heap[S]? = some (.cells cur e (0, 0))) :
    ∃ cur', (w.setCell ⟨R, j, none⟩ u).heap[S]? = some (.cells cur' e (0, 0)) ∧ cur'.size = cur.size := by
  obtain ⟨hlt, hk⟩ := Array.getElem?_eq_some_iff.1 h
  show ∃ cur', (w.heap.modify R _)[S]? = _ ∧ _
  by_cases hRS : R = S
  · subst hRS
    rw [Array.getElem?_eq_getElem (by rw [Array.size_modify]; exact hlt), Array.getElem_modify_self, hk]
    exact ⟨_, rfl, by simp⟩
  · rw [Array.getElem?_eq_getElem (by rw [Array.size_modify]; exact hlt), Array.getElem_modify_of_ne hRS, hk]
    exact ⟨_, rfl, rfl⟩
theorem Shp.set {B : Nat} {w : World} {e : TypeId} {size R j : Nat} {u v : Value} (h : Shp B w e size v) : Shp B (w.setCell ⟨R, j, none⟩ u) e size v := by
  obtain ⟨a, n, c, h1, h2, h3 | ⟨S, cur, h3, h4, h5, h6, h7⟩⟩ := h
  · exact ⟨a, n, c, h1, h2, .inl h3⟩
  · obtain ⟨cur', k1, k2⟩ := heap_setCell (R := R) (j := j) (u := u) h5
    exact ⟨a, n, c, h1, h2, .inr ⟨S, cur', h3, h4, k1, k2.trans h6, h7⟩⟩
theorem Shp.mono {B B' : Nat} {w : World} {e : TypeId} {size : Nat} {v : Value} (h : Shp B w e size v) (hB : B' ≤ B) : Shp B' w e size v := by
  obtain ⟨a, n, c, h1, h2, h3 | ⟨S, cur, h3, h4, h5⟩⟩ := h
  · exact ⟨a, n, c, h1, h2, .inl h3⟩
  · exact ⟨a, n, c, h1, h2, .inr ⟨S, cur, h3, by omega, h5⟩⟩
theorem Shp.zero {B : Nat} {w : World} {e : TypeId} {size : Nat} {a : Option Addr} : Shp B w e size (.slice a 0 0) := ⟨a, 0, 0, rfl, Nat.le_refl _, .inl rfl⟩
theorem rowOf_length (w : World) (b o k : Nat) : (rowOf w b o k).length = k := by simp [rowOf]

theorem ent_cells {w : World} {b o : Nat} {l : List Ent} (hcl : ∀ i, (h : i < l.length) → EntAt w b (o + i * 5) l[i]) (j : Nat) (hj : j < l.length * 5) : ∃ v, w.cell? ⟨b, o + j, none⟩ = some v := by
  have hA := hcl (j / 5) (by omega)
  have hr : j % 5 < 5 := Nat.mod_lt _ (by omega)
  have e : o + j = o + j / 5 * 5 + j % 5 := by omega
  rw [e]
  generalize o + j / 5 * 5 = q at *
  generalize j % 5 = r at *
  match r, hr with
  | 0, _ => exact ⟨_, hA.c0⟩
  | 1, _ => exact ⟨_, hA.c1⟩
  | 2, _ => exact ⟨_, hA.c2⟩
  | 3, _ => exact ⟨_, hA.c3⟩
  | 4, _ => exact ⟨_, hA.c4⟩

end Go.Proofs.YtokcgnbjkbhmiaaDoor
