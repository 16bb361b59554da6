/- Rows of memory that a call has made for itself, whatever their elements are. Over any program. Sums: what stirring does; mix's sum of a key and a version. Sums: mix's sum of a key and a version, as words that are stirred in. -/
import Derived.Test.YtokcgnbjkbhmiaaDoorRowT
import Derived.Test.YtokcgnbjkbhmiaaDoorMTA
import Derived.Maps.AppendAt
import Derived.Test.YtokcgnbjkbhmiaaDoorMHS
import Derived.Laws.Bits64
import Derived.Lib.RuneCountTail
import Derived.RegionTactic
namespace Go.Proofs.YtokcgnbjkbhmiaaDoor
open Go.RowKit
set_option maxHeartbeats 4000000
set_option maxRecDepth 100000
set_option linter.unusedSimpArgs false
set_option linter.unusedVariables false

/-- What append asks of a type of slices: T is a slice of t; an element takes k cells; f lays one. -/
structure TyOk {α : Type} (P : Program) (T t : TypeId) (k : Nat) (f : α → List Value) : Prop where
  ht : P.underlying T = some (.slice t)
  hk : 0 < k
  hf : ∀ a, (f a).length = k
  h1 : ∀ a, ∀ u ∈ f a, u.oneCell' = true
  info : ∃ i z, P.info? t = some i ∧ i.size = k ∧ i.bytes ≤ 128 ∧ i.zero = some z ∧ z.cells.size = k
  zero : ∀ (w : World) (base : Option Addr) (n cap : Nat), n ≤ cap → ∀ (x : Option Addr) (c : Nat), (Builtin.append_ #[T, T] T #[.slice base n cap, .slice x 0 c]).run P w = .ok (.slice base n cap) w
section
variable {α : Type} {t : TypeId} {k : Nat} {f : α → List Value}
/-- A list in memory. -/
def GSl (f : α → List Value) (k : Nat) (w : World) (v : Value) (l : List α) : Prop :=
  ∃ a c, v = .slice a l.length c ∧ l.length ≤ c ∧ (0 < l.length → ∃ b o, a = some ⟨b, o, none⟩ ∧ ∀ i, (h : i < l.length) → ∀ j, j < k → w.cell? ⟨b, o + i * k + j, none⟩ = (f l[i])[j]?)
def OwG (t : TypeId) (k : Nat) (f : α → List Value) (w : World) (B : Nat) (v : Value) (l : List α) : Prop := w.ownsRow B t k v l.length (l.flatMap f)
theorem flatG_len (hf : ∀ a, (f a).length = k) : ∀ l : List α, (l.flatMap f).length = l.length * k
  | [] => by simp
  | e :: l => by rw [List.flatMap_cons, List.length_append, flatG_len hf l, hf, List.length_cons, Nat.add_mul]; omega
theorem raddG {b o j : Nat} : (⟨b, o, none⟩ : Addr).add j = ⟨b, o + j, none⟩ := by
  unfold Addr.add
  split
  · rename_i h; subst h; rfl
  · rfl
theorem GSl.ext {w w' : World} {v : Value} {l : List α} (hf : ∀ a, (f a).length = k) (h : GSl f k w v l) (hx : Ext w w') : GSl f k w' v l := by
  obtain ⟨a, c, e, h1, h2⟩ := h
  refine ⟨a, c, e, h1, fun hp => ?_⟩
  obtain ⟨b, o, e2, hc⟩ := h2 hp
  refine ⟨b, o, e2, fun i hi j hj => ?_⟩
  have h3 := hc i hi j hj
  rw [List.getElem?_eq_getElem (by rw [hf]; exact hj)] at h3 ⊢
  exact cell_ext hx h3
theorem ownG_nil (w : World) (B : Nat) : OwG t k f w B (.slice none 0 0) [] := ⟨by simp, .inl ⟨rfl, rfl⟩⟩
theorem ownG_empty {w : World} {B g : Nat} (hg : w.heap[g]? = some (.cells #[] t (0, 0))) (hB : B ≤ g) : OwG t k f w B (.slice (some ⟨g, 0, none⟩) 0 0) [] :=
  ⟨by simp, .inr ⟨g, 0, #[], rfl, hB, hg, Nat.le_refl _, by unfold maxLen; omega, by simp, by simp⟩⟩
theorem OwG.ext {w w' : World} {B : Nat} {v : Value} {l : List α} (h : OwG t k f w B v l) (hx : Ext w w') : OwG t k f w' B v l := own_ext h hx
theorem OwG.lower {w : World} {B B' : Nat} {v : Value} {l : List α} (h : OwG t k f w B v l) (hB : B' ≤ B) : OwG t k f w B' v l :=
  ⟨h.1, h.2.imp id (fun ⟨g, cap, cur, e1, e2, e3⟩ => ⟨g, cap, cur, e1, Nat.le_trans hB e2, e3⟩)⟩
theorem OwG.xl {L : List Nat} {w w' : World} (hx : Xl L w w') {v : Value} (hn : ∀ g, v.ownBlock = some g → g ∉ L) {B : Nat} {l : List α} (h : OwG t k f w B v l) : OwG t k f w' B v l := by
  rcases h.2 with ⟨e1, e2⟩ | ⟨g, cap, cur, e1, e2, e3, e4⟩
  · exact ⟨h.1, .inl ⟨e1, e2⟩⟩
  · have hg : g ∉ L := hn g (by rw [e1]; rfl)
    exact ⟨h.1, .inr ⟨g, cap, cur, e1, e2, (hx.block g (Array.getElem?_eq_some_iff.1 e3).1 hg).trans e3, e4⟩⟩
theorem OwG.at {w : World} {B : Nat} {v : Value} {l : List α} (hk : 0 < k) (hf : ∀ a, (f a).length = k) (h : OwG t k f w B v l) (hp : 0 < l.length) :
    ∃ g c, v = .slice (some ⟨g, 0, none⟩) l.length c ∧ l.length ≤ c ∧ B ≤ g ∧ g < w.heap.size ∧ ∀ i, (hi : i < l.length) → ∀ j, j < k → w.cell? ⟨g, i * k + j, none⟩ = (f l[i])[j]? := by
  obtain ⟨g, c, hv, hc⟩ := own_cell h hp
  have hlt := World.ownsRow.lt h g (by rw [hv]; rfl)
  rcases h.2 with ⟨h1, -⟩ | ⟨g', cap, cur, h1, h2, h3, h4, h5, -⟩
  · rw [hv] at h1; cases h1
  · rw [hv] at h1; cases h1
    refine ⟨g, c, hv, h4, hlt.1, hlt.2, fun i hi j hj => ?_⟩
    have e := flat_get f k hk hf l i hi j hj
    have hjl : j < (f l[i]).length := by rw [hf]; exact hj
    rw [List.getElem?_eq_getElem hjl] at e ⊢
    exact hc _ _ e
theorem OwG.cell1 {w : World} {B g n c i : Nat} {l : List α} {x : α} {u v : Value} (hf : ∀ a, (f a).length = 1) (h : OwG t 1 f w B v l) (hv : v = .slice (some ⟨g, 0, none⟩) n c) (hi : l[i]? = some x) (hx : f x = [u]) : w.cell? ⟨g, i, none⟩ = some u := by
  obtain ⟨hlt, e⟩ := List.getElem?_eq_some_iff.1 hi
  obtain ⟨g', c', e1, -, -, -, h4⟩ := h.at (by omega) hf (by omega)
  rw [hv] at e1
  cases e1
  have := h4 i hlt 0 (by omega)
  rw [e, hx, Nat.mul_one, Nat.add_zero] at this
  exact this
theorem OwG.sl {w : World} {B : Nat} {v : Value} {l : List α} (hk : 0 < k) (hf : ∀ a, (f a).length = k) (h : OwG t k f w B v l) : GSl f k w v l := by
  rcases Nat.eq_zero_or_pos l.length with h0 | hp
  · rcases h.2 with ⟨e1, e2⟩ | ⟨g, cap, cur, e1, e2, e3, e4, e5, e6⟩
    · exact ⟨none, 0, by rw [e1, h0], by omega, fun hp => by omega⟩
    · exact ⟨_, cap, e1, e4, fun hp => by omega⟩
  · obtain ⟨g, c, hv, h1, -, -, h3⟩ := h.at hk hf hp
    exact ⟨_, c, hv, h1, fun _ => ⟨g, 0, rfl, fun i hi j hj => by rw [Nat.zero_add]; exact h3 i hi j hj⟩⟩
theorem appendG {P : Program} {T : TypeId} (G : TyOk P T t k f) {w : World} {B : Nat} {v lv : Value} {M L : List α} (hown : OwG t k f w B v M) (hx : GSl f k w lv L) (hl : M.length + L.length ≤ 1000000000) (hB : B ≤ w.heap.size) :
    ∃ v' w', (Builtin.append_ #[T, T] T #[v, lv]).run P w = .ok v' w' ∧ OwG t k f w' B v' (M ++ L) ∧ w.grownBy w' v.ownBlock ∧ (v'.ownBlock = v.ownBlock ∨ v'.ownBlock = some w.heap.size) := by
  obtain ⟨a, c, rfl, hc, hcl⟩ := hx
  rcases Nat.eq_zero_or_pos L.length with h0 | hp
  · obtain rfl : L = [] := List.length_eq_zero_iff.1 h0
    rw [List.append_nil]
    refine ⟨v, w, ?_, hown, ⟨rfl, rfl, rfl, Nat.le_refl _, fun _ _ _ => rfl⟩, .inl rfl⟩
    rcases hown.2 with ⟨e1, e2⟩ | ⟨g, cap, cur, e1, e2, e3, e4, e5⟩
    · rw [e1]; exact G.zero w none 0 0 (Nat.le_refl _) a c
    · rw [e1]; exact G.zero w _ _ cap e4 a c
  · obtain ⟨b, o, rfl, hE⟩ := hcl hp
    obtain ⟨i0, z, hinf, hs, hby, hz, hcc⟩ := G.info
    have hk := G.hk
    obtain ⟨v', w', h1, h2, h3, -, h4⟩ := run_append_own_at (P := P) w B T T t i0 z k i0.bytes G.ht hinf hz hs rfl hcc hk v M.length (M.flatMap f) hown ⟨b, o, none⟩ L.length c (L.flatMap f) (flatG_len G.hf L)
      (fun j u hj => by
        have hjl : j < L.length * k := by
          rw [← flatG_len G.hf L]
          exact (List.getElem?_eq_some_iff.1 hj).1
        have hq : j / k < L.length := Nat.div_lt_of_lt_mul (by rw [Nat.mul_comm]; exact hjl)
        have hr : j % k < k := Nat.mod_lt _ hk
        have e := Nat.div_add_mod j k
        rw [Nat.mul_comm] at e
        have h5 := flat_get f k hk G.hf L (j / k) hq (j % k) hr
        rw [e, hj] at h5
        rw [raddG]
        have h6 := hE (j / k) hq (j % k) hr
        rw [Nat.add_assoc, e, ← h5] at h6
        exact h6) (fun u hu => by
        obtain ⟨r, -, hr⟩ := List.mem_flatMap.1 hu
        exact G.h1 r u hr) (by unfold maxLen; omega) (by
        have : (M.length + L.length) * i0.bytes ≤ 1000000000 * 128 := Nat.mul_le_mul hl hby
        omega) hB
    refine ⟨v', w', h1, ?_, h3, h4⟩
    unfold OwG
    rw [List.length_append, List.flatMap_append]
    exact h2
end
end Go.Proofs.YtokcgnbjkbhmiaaDoor
namespace Go.Proofs.YtokcgnbjkbhmiaaDoor
open Go.RowKit Go.Lib
set_option maxHeartbeats 4000000
set_option maxRecDepth 100000
set_option linter.unusedSimpArgs false
set_option linter.unusedVariables false
theorem en_mxStir : Enters Tryd.prog 136 := ⟨_, Tryd.func136, by kernel_rfl, rfl⟩
theorem en_mxOf : Enters Tryd.prog 111 := ⟨_, Tryd.func111, by kernel_rfl, rfl⟩
theorem en_mxAdd : Enters Tryd.prog 98 := ⟨_, Tryd.func98, by kernel_rfl, rfl⟩
theorem en_mxAll : Enters Tryd.prog 97 := ⟨_, Tryd.func97, by kernel_rfl, rfl⟩
theorem gen_callsK {P : Program} {f : FuncId} {args : Array Value} {w : World} {Q : Ending → World → Prop} (R : World → Prop) (h0 : R w) (h : ∀ W, R W → Calls P f args W Q) : Calls P f args w Q := h w h0
theorem gen_codeK {P : Program} {c : Code} {Q : Exit → Act → World → Prop} {a : Act} {w : World} (R : World → Prop) (h0 : R w) (h : ∀ W, R W → c.wp P Q a W) : c.wp P Q a w := h w h0
def stirI (F d x w : Int) : Int := bits .xor .u64 (IntKind.u64.wrap (bits .xor .u64 x w * F)) (IntKind.u64.wrap (bits .xor .u64 x w * F) / d)
def laneI (F d x : Int) (ws : List Int) : Int := ws.foldl (fun x w => stirI F d x w) x
theorem laneI_snoc (F d x : Int) (ws : List Int) (w : Int) : laneI F d x (ws ++ [w]) = stirI F d (laneI F d x ws) w := by unfold laneI; rw [List.foldl_append]; rfl
abbrev lane0 (ws : List Int) : Int := laneI 11400714819323198485 536870912 2611923443488327891 ws
abbrev lane1 (ws : List Int) : Int := laneI 14029467366897019727 4294967296 1376283091369227076 ws
/-- What the variable mix.lanes reads as. -/
structure LanesAt (w : World) : Prop where
  c0 : w.cell? ⟨0, 0, none⟩ = some (.int .u64 2611923443488327891)
  c1 : w.cell? ⟨0, 1, none⟩ = some (.int .u64 11400714819323198485)
  c2 : w.cell? ⟨0, 2, none⟩ = some (.int .i64 29)
  c3 : w.cell? ⟨0, 3, none⟩ = some (.int .u64 1376283091369227076)
  c4 : w.cell? ⟨0, 4, none⟩ = some (.int .u64 14029467366897019727)
  c5 : w.cell? ⟨0, 5, none⟩ = some (.int .i64 32)
theorem LanesAt.ext {w w' : World} (h : LanesAt w) (hx : Ext w w') : LanesAt w' := ⟨cell_ext hx h.c0, cell_ext hx h.c1, cell_ext hx h.c2, cell_ext hx h.c3, cell_ext hx h.c4, cell_ext hx h.c5⟩
/-- A sum in memory. -/
structure SumAt (w : World) (G : Nat) (x0 x1 : Int) : Prop where
  b : w.heap[G]? = some (.cells #[.int .u64 x0, .int .u64 x1] 30 (0, 0))
theorem SumAt.xl {L : List Nat} {w w' : World} {G : Nat} {x0 x1 : Int} (h : SumAt w G x0 x1) (hx : Xl L w w') (hn : G ∉ L) : SumAt w' G x0 x1 := ⟨(hx.block G (Array.getElem?_eq_some_iff.1 h.b).1 hn).trans h.b⟩
theorem index_lane0 (w : World) : (Instr.index 197 (.agg #[.int .u64 2611923443488327891, .int .u64 11400714819323198485, .int .i64 29, .int .u64 1376283091369227076, .int .u64 14029467366897019727, .int .i64 32]) (.int .i64 0)).run Tryd.prog w = .ok (.agg #[.int .u64 2611923443488327891, .int .u64 11400714819323198485, .int .i64 29]) w := by kernel_rfl
theorem index_lane1 (w : World) : (Instr.index 197 (.agg #[.int .u64 2611923443488327891, .int .u64 11400714819323198485, .int .i64 29, .int .u64 1376283091369227076, .int .u64 14029467366897019727, .int .i64 32]) (.int .i64 1)).run Tryd.prog w = .ok (.agg #[.int .u64 1376283091369227076, .int .u64 14029467366897019727, .int .i64 32]) w := by kernel_rfl
attribute [local go_sem ↓] index_lane0 index_lane1
theorem SumAt.ext {w w' : World} {G : Nat} {x0 x1 : Int} (h : SumAt w G x0 x1) (hx : Ext w w') : SumAt w' G x0 x1 := ⟨(hx.below.block G (Array.getElem?_eq_some_iff.1 h.b).1).trans h.b⟩
theorem SumAt.set0 {w : World} {G : Nat} {x0 x1 y z : Int} (h : SumAt w G x0 x1) (e : z = y) : SumAt (w.setCell ⟨G, 0, none⟩ (.int .u64 z)) G y x1 := by subst e; exact ⟨by rw [heap_setCell_same _ _ _ _ _ _ h.b]; rfl⟩
theorem SumAt.set1 {w : World} {G : Nat} {x0 x1 y z : Int} (h : SumAt w G x0 x1) (e : z = y) : SumAt (w.setCell ⟨G, 1, none⟩ (.int .u64 z)) G x0 y := by subst e; exact ⟨by rw [heap_setCell_same _ _ _ _ _ _ h.b]; rfl⟩
namespace SumAt
variable {w : World} {G : Nat} {x0 x1 : Int}
theorem c0 (h : SumAt w G x0 x1) : w.cell? ⟨G, 0, none⟩ = some (.int .u64 x0) := by simp [World.cell?, h.b]
theorem c1 (h : SumAt w G x0 x1) : w.cell? ⟨G, 1, none⟩ = some (.int .u64 x1) := by simp [World.cell?, h.b]
theorem f0 (h : SumAt w G x0 x1) : w.frozen? ⟨G, 0, none⟩ = false := by simp [World.frozen?, h.b]
theorem f1 (h : SumAt w G x0 x1) : w.frozen? ⟨G, 1, none⟩ = false := by simp [World.frozen?, h.b]
end SumAt
theorem xl_st {G o : Nat} {w wr W : World} {v : Value} (h : Xl [G] w wr) (hx : Ext (wr.setCell ⟨G, o, none⟩ v) W) : Xl [G] w W := Xl.trans _ _ _ h (Xl.trans _ _ _ ((Xl.refl wr).set (by simp)) (Xl.of hx))
theorem stir_any {w : World} (G : Nat) (x0 x1 u : Int) (hl : LanesAt w) (hs : SumAt w G x0 x1) (hG : G ≠ 0) :
    Calls Tryd.prog 136 #[.pointer (some ⟨G, 0, none⟩), .int .u64 u] w fun e w' => (∃ v, e = .returned v) ∧ SumAt w' G (stirI 11400714819323198485 536870912 x0 u) (stirI 14029467366897019727 4294967296 x1 u) ∧ Xl [G] w w' := by
  have HL := hid_mk hl
  have HS := hid_mk hs
  obtain ⟨y0, hy0⟩ : ∃ y, stirI 11400714819323198485 536870912 x0 u = y := ⟨_, rfl⟩
  obtain ⟨y1, hy1⟩ : ∃ y, stirI 14029467366897019727 4294967296 x1 u = y := ⟨_, rfl⟩
  have HY0 := hid_mk hy0
  have HY1 := hid_mk hy1
  rw [hy0, hy1]
  have l0 := HL.out.c0
  have l1 := HL.out.c1
  have l2 := HL.out.c2
  have l3 := HL.out.c3
  have l4 := HL.out.c4
  have l5 := HL.out.c5
  have ll := cell_lt l0
  clear hl hs hy0 hy1
  go_enter Tryd.func136, Tryd.ntmps136
  go_wp2
  go_loopw [8] (fun i wr => ∃ k : Nat, ∃ a b : Int, k ≤ 2 ∧ i = .int .i64 (k : Int) ∧ Xl [G] w wr ∧ SumAt wr G a b ∧ ((k = 0 ∧ a = x0 ∧ b = x1) ∨ (k = 1 ∧ a = y0 ∧ b = x1) ∨ (k = 2 ∧ a = y0 ∧ b = y1))) (fun i _ => 2 - (intOf i).toNat)
  case atStart => exact ⟨0, x0, x1, by omega, rfl, Xl.refl _, HS.out, .inl ⟨rfl, rfl, rfl⟩⟩
  case round =>
    obtain ⟨k, a, b, hk, rfl, hx, hsa, hc⟩ := hrel
    have HX := hid_mk hx
    have HA := hid_mk hsa
    clear hx hsa
    have hb := HA.out.b
    have s0 : wr.cell? ⟨G, 0, none⟩ = some (.int .u64 a) := by simp [World.cell?, hb]
    have s1 : wr.cell? ⟨G, 1, none⟩ = some (.int .u64 b) := by simp [World.cell?, hb]
    have f0 : wr.frozen? ⟨G, 0, none⟩ = false := by simp [World.frozen?, hb]
    have f1 : wr.frozen? ⟨G, 1, none⟩ = false := by simp [World.frozen?, hb]
    have sl := cell_lt s0
    clear hb
    rcases hc with ⟨rfl, rfl, rfl⟩ | ⟨rfl, rfl, rfl⟩ | ⟨rfl, rfl, rfl⟩
    · go_wp2
      go_region
      go_wp2
      go_region
      go_wp2
      go_roundw
      case rel => exact ⟨1, y0, b, by omega, rfl, xl_st HX.out (by (repeat (first | exact Ext.refl _ | apply Ext.drew_left | apply Ext.drew | apply Ext.alloc))), (HA.out.set0 HY0.out).ext (by (repeat (first | exact Ext.refl _ | apply Ext.drew_left | apply Ext.drew | apply Ext.alloc))), .inr (.inl ⟨rfl, rfl, rfl⟩)⟩
      case measure => simp [intOf]
    · go_wp2
      go_region
      go_wp2
      go_region
      go_wp2
      go_roundw
      case rel => exact ⟨2, a, y1, by omega, rfl, xl_st HX.out (by (repeat (first | exact Ext.refl _ | apply Ext.drew_left | apply Ext.drew | apply Ext.alloc))), (HA.out.set1 HY1.out).ext (by (repeat (first | exact Ext.refl _ | apply Ext.drew_left | apply Ext.drew | apply Ext.alloc))), .inr (.inr ⟨rfl, rfl, rfl⟩)⟩
      case measure => simp [intOf]
    · go_wp2
      go_end0
      exact ⟨⟨_, rfl⟩, HA.out, HX.out⟩
theorem mxAdd_any (a b c d : Int) (w : World) : Calls Tryd.prog 98 #[.agg #[.int .u64 a, .int .u64 b], .agg #[.int .u64 c, .int .u64 d]] w fun e w' => e = .returned (.agg #[.int .u64 (IntKind.u64.wrap (a + c)), .int .u64 (IntKind.u64.wrap (b + d))]) ∧ Ext w w' := by
  go_enter Tryd.func98, Tryd.ntmps98
  go_wp2
  refine bodyPost_ret (v := .agg #[.int .u64 (IntKind.u64.wrap (a + c)), .int .u64 (IntKind.u64.wrap (b + d))]) (by unfold results; rw [Tryd.results98]; go_simp; first | done | rfl) rfl ⟨rfl, ?_⟩
  trace_state
  (repeat (first | exact Ext.refl _ | apply Ext.drew_left | apply Ext.drew | apply Ext.alloc))
end Go.Proofs.YtokcgnbjkbhmiaaDoor
namespace Go.Proofs.YtokcgnbjkbhmiaaDoor
open Go.RowKit Go.Lib
set_option maxHeartbeats 4000000
set_option maxRecDepth 100000
set_option linter.unusedSimpArgs false
set_option linter.unusedVariables false
attribute [-go_sem] run_index_string

def leU (s : ByteArray) (m : Nat) : Nat → Nat
  | 0 => 0
  | n + 1 => (s.get! m).toNat + 256 * leU s (m + 1) n
theorem leU_lt (s : ByteArray) : ∀ n m, leU s m n < 256 ^ n
  | 0, _ => by simp [leU]
  | n + 1, m => by
    have h := leU_lt s n (m + 1)
    have hb := (s.get! m).toNat_lt
    rw [leU, Nat.pow_succ]
    omega
theorem leU_congr {a b : ByteArray} : ∀ (n : Nat) {m m' : Nat}, (∀ i, i < n → a.get! (m + i) = b.get! (m' + i)) → leU a m n = leU b m' n
  | 0, _, _, _ => rfl
  | n + 1, m, m', h => by
    rw [leU, leU, leU_congr n (m := m + 1) (m' := m' + 1) (fun i hi => by have := h (i + 1) (by omega); rw [show m + 1 + i = m + (i + 1) by omega, show m' + 1 + i = m' + (i + 1) by omega]; exact this)]
    have := h 0 (by omega)
    rw [Nat.add_zero, Nat.add_zero] at this
    rw [this]
theorem leU_snoc (s : ByteArray) : ∀ n m, leU s m (n + 1) = leU s m n + 256 ^ n * (s.get! (m + n)).toNat
  | 0, m => by simp [leU]
  | n + 1, m => by
    rw [leU, leU_snoc s n (m + 1), leU, Nat.pow_succ, show m + 1 + n = m + (n + 1) by omega, Nat.mul_add, Nat.add_assoc, Nat.mul_comm (256 ^ n) 256, Nat.mul_assoc]
theorem bits_or_u64_nat (a b : Nat) (ha : a < 18446744073709551616) (hb : b < 18446744073709551616) :
    bits .or .u64 (a : Int) (b : Int) = ((a ||| b : Nat) : Int) := by
  have hx : a ||| b < 2 ^ 64 := Nat.or_lt_two_pow (by omega) (by omega)
  have h1 : (BitVec.ofInt 64 (a : Int)).toNat = a := by
    rw [BitVec.ofInt_natCast, BitVec.toNat_ofNat]; exact Nat.mod_eq_of_lt (by omega)
  have h2 : (BitVec.ofInt 64 (b : Int)).toNat = b := by
    rw [BitVec.ofInt_natCast, BitVec.toNat_ofNat]; exact Nat.mod_eq_of_lt (by omega)
  show IntKind.u64.wrap ((BitVec.ofInt 64 (a : Int) ||| BitVec.ofInt 64 (b : Int)).toNat : Int) = _
  rw [BitVec.toNat_or, h1, h2, IntKind.wrap_u64]
  omega
theorem or_step (x b : Nat) (hx : x < 72057594037927936) (hb : b < 256) : bits .or .u64 ((x : Int) * 256) (b : Int) = ((b + 256 * x : Nat) : Int) := by
  have e1 : (x : Int) * 256 = ((256 * x : Nat) : Int) := by omega
  rw [e1, bits_or_u64_nat _ _ (by omega) (by omega)]
  have := Nat.two_pow_add_eq_or_of_lt (i := 8) (b := b) (by omega) x
  rw [show (256 : Nat) = 2 ^ 8 from rfl, ← this, Nat.add_comm]
def chunk (s : ByteArray) (k : Nat) : Int := (leU s (8 * k) (min 8 (s.size - 8 * k)) : Nat)
def chunksTo (s : ByteArray) (k : Nat) : List Int := (List.range k).map (chunk s)
theorem chunksTo_succ (s : ByteArray) (k : Nat) : chunksTo s (k + 1) = chunksTo s k ++ [chunk s k] := by unfold chunksTo; rw [List.range_succ, List.map_append]; rfl
def wordsP (s : ByteArray) (k : Nat) : List Int := IntKind.u64.wrap (s.size : Int) :: chunksTo s k
theorem wordsP_succ (s : ByteArray) (k : Nat) : wordsP s (k + 1) = wordsP s k ++ [chunk s k] := by unfold wordsP; rw [chunksTo_succ]; rfl
def wordsK (s : ByteArray) (c n : Int) : List Int := wordsP s ((s.size + 7) / 8) ++ [IntKind.u64.wrap c] ++ [IntKind.u64.wrap n]
/-- What Of has laid, and where it stands. -/
structure OfAt (w W : World) (c n x0 x1 : Int) : Prop where
  x : Ext w W
  v0 : W.cell? ⟨w.heap.size, 0, none⟩ = some (.int .i64 c)
  v1 : W.cell? ⟨w.heap.size, 1, none⟩ = some (.int .i64 n)
  r : SumAt W (w.heap.size + 1) 0 0
  s : SumAt W (w.heap.size + 1 + 1) x0 x1
theorem OfAt.ext {w W W' : World} {c n x0 x1 : Int} (h : OfAt w W c n x0 x1) (hx : Ext W W') : OfAt w W' c n x0 x1 :=
  ⟨Ext.trans _ _ _ h.x hx, cell_ext hx h.v0, cell_ext hx h.v1, h.r.ext hx, h.s.ext hx⟩
theorem OfAt.stir {w W W' : World} {c n x0 x1 y0 y1 : Int} (h : OfAt w W c n x0 x1) (hx : Xl [w.heap.size + 1 + 1] W W') (hs : SumAt W' (w.heap.size + 1 + 1) y0 y1) : OfAt w W' c n y0 y1 :=
  ⟨Xl.ext h.x hx (by simp; omega), (hx.cell (cell_lt h.v0) (by simp; omega)).trans h.v0, (hx.cell (cell_lt h.v1) (by simp; omega)).trans h.v1, h.r.xl hx (by simp), hs⟩
theorem getB_eq (s : ByteArray) (n : Nat) (hn : n < s.size) : s[(n : Int).toNat]'(by omega) = s.get! n := by
  cases s with
  | mk d => exact (getElem!_pos d n hn).symm
theorem run_indexB (s : ByteArray) (i : Int) (n : Nat) (h : i = (n : Int)) (hn : n < s.size) (w : World) : (Instr.index 9 (.string s) (.int .i64 i)).run Tryd.prog w = .ok (.int .u8 ((s.get! n).toNat : Int)) w := by
  rw [run_index_string w 9 s .i64 i Tryd.underlying9, dif_pos ⟨by omega, by omega⟩]
  subst h
  rw [show s[(n : Int).toNat]'(by omega) = s.get! n from getB_eq s n hn]
theorem mxOf_any {w : World} (key : ByteArray) (c n : Int) (hl : LanesAt w) : Calls Tryd.prog 111 #[.string key, .agg #[.int .i64 c, .int .i64 n]] w fun e w' => e = .returned (.agg #[.int .u64 (lane0 (wordsK key c n)), .int .u64 (lane1 (wordsK key c n))]) ∧ Ext w w' := by
  have HL := hid_mk hl
  obtain ⟨y0, hy0⟩ : ∃ y, lane0 (wordsK key c n) = y := ⟨_, rfl⟩
  obtain ⟨y1, hy1⟩ : ∃ y, lane1 (wordsK key c n) = y := ⟨_, rfl⟩
  have HY0 := hid_mk hy0
  have HY1 := hid_mk hy1
  rw [hy0, hy1]
  have l0 := HL.out.c0
  have l1 := HL.out.c1
  have l2 := HL.out.c2
  have l3 := HL.out.c3
  have l4 := HL.out.c4
  have l5 := HL.out.c5
  have ll := cell_lt l0
  clear hl hy0 hy1
  go_enter Tryd.func111, Tryd.ntmps111
  go_wp2_with fail
  refine gen_callsK (fun W => OfAt w W c n 2611923443488327891 1376283091369227076) ⟨by (repeat (first | exact Ext.refl _ | apply Ext.drew_left | apply Ext.drew | apply Ext.alloc)), by go_simp, by go_simp, ⟨?_⟩, ⟨?_⟩⟩ ?_
  · have h := heap_alloc_new (w.alloc (.cells #[.int .i64 c, .int .i64 n] 55)) (.cells #[.int .u64 0, .int .u64 0] 30)
    rw [World.size_alloc] at h
    refine Eq.trans ?_ h
    exact Below.heap_alloc _ _ _ (by simp)
  · have h := heap_alloc_new ((w.alloc (.cells #[.int .i64 c, .int .i64 n] 55)).alloc (.cells #[.int .u64 0, .int .u64 0] 30)) (.cells #[.int .u64 2611923443488327891, .int .u64 1376283091369227076] 30)
    rw [World.size_alloc, World.size_alloc] at h
    exact h
  intro W1 h1
  have HW1 := hid_mk h1
  clear h1
  refine (stir_any (w.heap.size + 1 + 1) _ _ _ (HL.out.ext HW1.out.x) HW1.out.s (by omega)).mono ?_
  rintro e W2 ⟨⟨_, rfl⟩, hs, hx⟩
  have HW2 := hid_mk (HW1.out.stir hx hs)
  clear hs hx
  clear HW1
  have HT := hid_mk (show OfAt w W2 c n (lane0 (wordsP key 0)) (lane1 (wordsP key 0)) from HW2.out)
  clear HW2
  go_wp2_with fail
  go_loopw [0] (fun s wr => ∃ k : Nat, ∃ kb : ByteArray, s = .string kb ∧ k ≤ (key.size + 7) / 8 ∧ kb.size = key.size - 8 * k ∧ (∀ i, i < kb.size → kb.get! i = key.get! (8 * k + i)) ∧ OfAt w wr c n (lane0 (wordsP key k)) (lane1 (wordsP key k))) (fun s _ => match s with | .string kb => kb.size | _ => 0)
  case atStart => exact ⟨0, key, rfl, Nat.zero_le _, by omega, fun i _ => by rw [Nat.mul_zero, Nat.zero_add], HT.out⟩
  case round =>
    clear HT
    obtain ⟨k, kb, rfl, hk, hsz, hgt, hof⟩ := hrel
    have HO := hid_mk hof
    have HGT := hid_mk hgt
    have HSZ := hid_mk hsz
    clear hof hgt
    clear hsz
    by_cases hp : 0 < kb.size
    · have hp' : (0 : Int) < (kb.size : Int) := by omega
      by_cases h8 : 8 ≤ kb.size
      · have h8' : (8 : Int) ≤ (kb.size : Int) := by omega
        have h8n : (8 : Int) < (kb.size : Int) ∨ (kb.size : Int) = 8 := by omega
        go_wp2_with fail
        go_loopw [7, 8] (fun s i wi => ∃ j : Nat, ∃ q : Int, Hid (q = ((8 : Nat) : Int) - 1 - (j : Int)) ∧ j ≤ 8 ∧ i = .int .i64 q ∧ s = .int .u64 ((leU kb (8 - j) j : Nat) : Int) ∧ wi = wr) (fun _ i _ => (intOf i + 1).toNat)
        case atStart => exact ⟨0, _, hid_mk (by omega), Nat.zero_le _, rfl, rfl, rfl⟩
        case round =>
          obtain ⟨j, q, HQ, hj, rfl, rfl, rfl⟩ := hrel
          by_cases hlt : j < 8
          · have hi0 : (0 : Int) ≤ q := by have := HQ.out; omega
            have hi8 : q ≤ 8 := by have := HQ.out; omega
            have hrun := run_indexB kb q (8 - 1 - j) (by have := HQ.out; omega) (by omega) wr
            have hb256 := (kb.get! (8 - 1 - j)).toNat_lt
            have HLE := hid_mk (show leU kb (8 - (j + 1)) (j + 1) = (kb.get! (8 - 1 - j)).toNat + 256 * leU kb (8 - j) j by rw [leU, show 8 - (j + 1) + 1 = 8 - j by omega, show 8 - (j + 1) = 8 - 1 - j by omega])
            have hlt56 : leU kb (8 - j) j < 72057594037927936 := Nat.lt_of_lt_of_le (leU_lt kb j _) (Nat.pow_le_pow_right (n := 256) (by omega) (show j ≤ 7 by omega))
            obtain ⟨x, hx⟩ : ∃ x, leU kb (8 - j) j = x := ⟨_, rfl⟩
            obtain ⟨b, hb⟩ : ∃ b, (kb.get! (8 - 1 - j)).toNat = b := ⟨_, rfl⟩
            rw [hb] at hrun hb256 HLE
            rw [hx] at HLE hlt56 ⊢
            have HOR := hid_mk (or_step x b hlt56 (by omega))
            clear hb hx
            go_wp2
            go_roundw
            case rel => exact ⟨j + 1, q - 1, hid_mk (by have := HQ.out; omega), by omega, rfl, congrArg (Value.int .u64) (HOR.out.trans (by rw [HLE.out])), trivial⟩
            case measure => simp [intOf]; omega
          · obtain rfl : j = 8 := by omega
            have hi0 : ¬ (0 : Int) ≤ q := by have := HQ.out; omega
            have HCK := hid_mk (show ((leU kb (8 - 8) 8 : Nat) : Int) = chunk key k by
              rw [Nat.sub_self, chunk, show min 8 (key.size - 8 * k) = 8 by rw [← HSZ.out]; omega]
              exact congrArg (fun z : Nat => (z : Int)) (leU_congr 8 (fun i hi => by rw [Nat.zero_add]; exact HGT.out i (by omega))))
            rw [HCK.out]
            clear HCK hlt
            go_wp2_with fail
            refine (stir_any (w.heap.size + 1 + 1) _ _ _ (HL.out.ext HO.out.x) HO.out.s (by omega)).mono ?_
            rintro e W5 ⟨⟨_, rfl⟩, hs, hx⟩
            have HW5 := hid_mk (HO.out.stir hx hs)
            clear hs hx
            go_wp2
            go_roundw
            case rel =>
              have hs := HSZ.out
              refine ⟨k + 1, _, rfl, by omega, by first | (rw [tail_size]; omega) | (rw [ByteArray.size_empty]; omega), fun i hi => ?_, ?_⟩
              · first | (rw [tail_size] at hi; rw [tail_get!, HGT.out _ (by omega)]; congr 1; omega) | (rw [ByteArray.size_empty] at hi; omega)
              · rw [wordsP_succ, lane0, lane1, laneI_snoc, laneI_snoc]
                exact HW5.out
            case measure => first | (simp only [tail_size]; omega) | (simp only [ByteArray.size_empty]; omega)
      · have h8' : ¬ (8 : Int) ≤ (kb.size : Int) := by omega
        have h8n : (kb.size : Int) < (8 : Int) := by omega
        go_wp2_with fail
        go_loopw [7, 8] (fun s i wi => ∃ j : Nat, ∃ q : Int, Hid (q = ((kb.size : Nat) : Int) - 1 - (j : Int)) ∧ j ≤ kb.size ∧ i = .int .i64 q ∧ s = .int .u64 ((leU kb (kb.size - j) j : Nat) : Int) ∧ wi = wr) (fun _ i _ => (intOf i + 1).toNat)
        case atStart => exact ⟨0, _, hid_mk (by omega), Nat.zero_le _, rfl, rfl, rfl⟩
        case round =>
          obtain ⟨j, q, HQ, hj, rfl, rfl, rfl⟩ := hrel
          by_cases hlt : j < kb.size
          · have hi0 : (0 : Int) ≤ q := by have := HQ.out; omega
            have hi8 : q ≤ 8 := by have := HQ.out; omega
            have hrun := run_indexB kb q (kb.size - 1 - j) (by have := HQ.out; omega) (by omega) wr
            have hb256 := (kb.get! (kb.size - 1 - j)).toNat_lt
            have HLE := hid_mk (show leU kb (kb.size - (j + 1)) (j + 1) = (kb.get! (kb.size - 1 - j)).toNat + 256 * leU kb (kb.size - j) j by rw [leU, show kb.size - (j + 1) + 1 = kb.size - j by omega, show kb.size - (j + 1) = kb.size - 1 - j by omega])
            have hlt56 : leU kb (kb.size - j) j < 72057594037927936 := Nat.lt_of_lt_of_le (leU_lt kb j _) (Nat.pow_le_pow_right (n := 256) (by omega) (show j ≤ 7 by omega))
            obtain ⟨x, hx⟩ : ∃ x, leU kb (kb.size - j) j = x := ⟨_, rfl⟩
            obtain ⟨b, hb⟩ : ∃ b, (kb.get! (kb.size - 1 - j)).toNat = b := ⟨_, rfl⟩
            rw [hb] at hrun hb256 HLE
            rw [hx] at HLE hlt56 ⊢
            have HOR := hid_mk (or_step x b hlt56 (by omega))
            clear hb hx
            go_wp2
            go_roundw
            case rel => exact ⟨j + 1, q - 1, hid_mk (by have := HQ.out; omega), by omega, rfl, congrArg (Value.int .u64) (HOR.out.trans (by rw [HLE.out])), trivial⟩
            case measure => simp [intOf]; omega
          · obtain rfl : j = kb.size := by omega
            have hi0 : ¬ (0 : Int) ≤ q := by have := HQ.out; omega
            have HCK := hid_mk (show ((leU kb (kb.size - kb.size) kb.size : Nat) : Int) = chunk key k by
              rw [Nat.sub_self, chunk, show min 8 (key.size - 8 * k) = kb.size by rw [← HSZ.out]; omega]
              exact congrArg (fun z : Nat => (z : Int)) (leU_congr kb.size (fun i hi => by rw [Nat.zero_add]; exact HGT.out i (by omega))))
            rw [HCK.out]
            clear HCK hlt
            go_wp2_with fail
            refine (stir_any (w.heap.size + 1 + 1) _ _ _ (HL.out.ext HO.out.x) HO.out.s (by omega)).mono ?_
            rintro e W5 ⟨⟨_, rfl⟩, hs, hx⟩
            have HW5 := hid_mk (HO.out.stir hx hs)
            clear hs hx
            go_wp2
            go_roundw
            case rel =>
              have hs := HSZ.out
              refine ⟨k + 1, _, rfl, by omega, by first | (rw [tail_size]; omega) | (rw [ByteArray.size_empty]; omega), fun i hi => ?_, ?_⟩
              · first | (rw [tail_size] at hi; rw [tail_get!, HGT.out _ (by omega)]; congr 1; omega) | (rw [ByteArray.size_empty] at hi; omega)
              · rw [wordsP_succ, lane0, lane1, laneI_snoc, laneI_snoc]
                exact HW5.out
            case measure => first | (simp only [tail_size]; omega) | (simp only [ByteArray.size_empty]; omega)
    · have hp' : ¬ (0 : Int) < (kb.size : Int) := by omega
      obtain rfl : k = (key.size + 7) / 8 := by have := HSZ.out; omega
      have HF0 := hid_mk (show stirI 11400714819323198485 536870912 (stirI 11400714819323198485 536870912 (lane0 (wordsP key ((key.size + 7) / 8))) (IntKind.u64.wrap c)) (IntKind.u64.wrap n) = y0 by rw [← HY0.out]; unfold wordsK; dsimp only [lane0]; rw [laneI_snoc, laneI_snoc])
      have HF1 := hid_mk (show stirI 14029467366897019727 4294967296 (stirI 14029467366897019727 4294967296 (lane1 (wordsP key ((key.size + 7) / 8))) (IntKind.u64.wrap c)) (IntKind.u64.wrap n) = y1 by rw [← HY1.out]; unfold wordsK; dsimp only [lane1]; rw [laneI_snoc, laneI_snoc])
      have v0 := HO.out.v0
      have v1 := HO.out.v1
      have vl := cell_lt v0
      go_wp2_with fail
      refine (stir_any (w.heap.size + 1 + 1) _ _ _ (HL.out.ext HO.out.x) HO.out.s (by omega)).mono ?_
      rintro e W5 ⟨⟨_, rfl⟩, hs, hx⟩
      have HW5 := hid_mk (HO.out.stir hx hs)
      clear hs hx
      clear v0 v1 vl HO
      have v0 := HW5.out.v0
      have v1 := HW5.out.v1
      have vl := cell_lt v0
      go_wp2_with fail
      refine (stir_any (w.heap.size + 1 + 1) _ _ _ (HL.out.ext HW5.out.x) HW5.out.s (by omega)).mono ?_
      rintro e W6 ⟨⟨_, rfl⟩, hs, hx⟩
      have HW6 := hid_mk (HW5.out.stir hx hs)
      clear hs hx
      rw [HF0.out, HF1.out] at HW6
      clear v0 v1 vl HW5 HF0 HF1
      have HS6 := hid_mk HW6.out.s
      have hb := HS6.out.b
      have s0 : W6.cell? ⟨w.heap.size + 1 + 1, 0, none⟩ = some (.int .u64 y0) := by simp [World.cell?, hb]
      have s1 : W6.cell? ⟨w.heap.size + 1 + 1, 1, none⟩ = some (.int .u64 y1) := by simp [World.cell?, hb]
      have f0 : W6.frozen? ⟨w.heap.size + 1 + 1, 0, none⟩ = false := by simp [World.frozen?, hb]
      have f1 : W6.frozen? ⟨w.heap.size + 1 + 1, 1, none⟩ = false := by simp [World.frozen?, hb]
      have sl := cell_lt s0
      clear hb
      have hb := HW6.out.r.b
      have r0 : W6.cell? ⟨w.heap.size + 1, 0, none⟩ = some (.int .u64 0) := by simp [World.cell?, hb]
      have r1 : W6.cell? ⟨w.heap.size + 1, 1, none⟩ = some (.int .u64 0) := by simp [World.cell?, hb]
      have g0 : W6.frozen? ⟨w.heap.size + 1, 0, none⟩ = false := by simp [World.frozen?, hb]
      have g1 : W6.frozen? ⟨w.heap.size + 1, 1, none⟩ = false := by simp [World.frozen?, hb]
      clear hb
      go_wp2
      refine bodyPost_ret (v := .agg #[.int .u64 y0, .int .u64 y1]) (by unfold results; rw [Tryd.results111]; go_simp; first | done | rfl) rfl ⟨rfl, ?_⟩
      exact Xl.ext HW6.out.x (L := [w.heap.size + 1]) (((Xl.refl W6).set (by simp)).set (by simp)) (by simp)
end Go.Proofs.YtokcgnbjkbhmiaaDoor
