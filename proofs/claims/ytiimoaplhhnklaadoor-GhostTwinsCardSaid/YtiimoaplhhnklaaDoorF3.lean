/- Entries in memory; what is wrong with those of a part. -/
import Derived.Test.YtiimoaplhhnklaaDoorF2
namespace Go.Proofs.YtiimoaplhhnklaaDoor
open Go.RowKit
set_option maxHeartbeats 4000000
set_option maxRecDepth 100000
set_option linter.unusedSimpArgs false
set_option linter.unusedVariables false
structure Ent where
  key : ByteArray
  ctr : Int
  node : Int
  val : ByteArray
  dead : Bool

/-- The entry's five cells lie at an address. -/
structure EntAt (w : World) (b o : Nat) (e : Ent) : Prop where
  c0 : w.cell? ⟨b, o, none⟩ = some (.string e.key)
  c1 : w.cell? ⟨b, o + 1, none⟩ = some (.int .i64 e.ctr)
  c2 : w.cell? ⟨b, o + 2, none⟩ = some (.int .i64 e.node)
  c3 : w.cell? ⟨b, o + 3, none⟩ = some (.string e.val)
  c4 : w.cell? ⟨b, o + 4, none⟩ = some (.bool e.dead)

theorem cell_lt {w : World} {b o : Nat} {v : Value} (h : w.cell? ⟨b, o, none⟩ = some v) : b < w.heap.size := World.block_lt_of_cell? w _ h
theorem cell_ext {w w' : World} (hx : Ext w w') {b o : Nat} {v : Value} (h : w.cell? ⟨b, o, none⟩ = some v) : w'.cell? ⟨b, o, none⟩ = some v := by rw [hx.hc b o (cell_lt h)]; exact h
theorem EntAt.ext {w w' : World} {b o : Nat} {e : Ent} (h : EntAt w b o e) (hx : Ext w w') : EntAt w' b o e :=
  ⟨cell_ext hx h.c0, cell_ext hx h.c1, cell_ext hx h.c2, cell_ext hx h.c3, cell_ext hx h.c4⟩

/-- A slice of entries, as it lies in memory. -/
def EntSl (w : World) (v : Value) (l : List Ent) : Prop :=
  ∃ a c, v = .slice a l.length c ∧ l.length ≤ c ∧ l.length ≤ 4611686018427387904 ∧ (0 < l.length → ∃ b o, a = some ⟨b, o, none⟩ ∧ ∀ i, (h : i < l.length) → EntAt w b (o + i * 5) l[i])
theorem EntSl.ext {w w' : World} {v : Value} {l : List Ent} (h : EntSl w v l) (hx : Ext w w') : EntSl w' v l := by
  obtain ⟨a, c, h1, h2, h3, h4⟩ := h
  exact ⟨a, c, h1, h2, h3, fun hp => let ⟨b, o, h5, h6⟩ := h4 hp; ⟨b, o, h5, fun i hi => (h6 i hi).ext hx⟩⟩

def itemsChk (lo hi : ByteArray) (op : Bool) : Option ByteArray → List Ent → Int
  | _, [] => 0
  | prev, e :: r => if entCheck e.key e.ctr e.node e.val e.dead ≠ 0 then entCheck e.key e.ctr e.node e.val e.dead
    else if rngHolds lo hi op e.key = false ∨ (∃ k, prev = some k ∧ Op.bytesLess k.toList e.key.toList = false) then 116 else itemsChk lo hi op (some e.key) r
def prevKey (l : List Ent) : Nat → Option ByteArray
  | 0 => none
  | k + 1 => (l[k]?).map (·.key)
theorem itemsChk_drop (lo hi : ByteArray) (op : Bool) (l : List Ent) (k : Nat) (h : k < l.length) (p : Option ByteArray) : itemsChk lo hi op p (l.drop k) =
    if entCheck l[k].key l[k].ctr l[k].node l[k].val l[k].dead ≠ 0 then entCheck l[k].key l[k].ctr l[k].node l[k].val l[k].dead
    else if rngHolds lo hi op l[k].key = false ∨ (∃ q, p = some q ∧ Op.bytesLess q.toList l[k].key.toList = false) then 116 else itemsChk lo hi op (some l[k].key) (l.drop (k + 1)) := by
  rw [List.drop_eq_getElem_cons h]; rfl
def partItems (kind : Int) (lo hi : ByteArray) (op : Bool) (l : List Ent) : Int :=
  if itemsChk lo hi op none l ≠ 0 then itemsChk lo hi op none l else if kind = 3 ∧ l.length = 0 then 116 else 0

end Go.Proofs.YtiimoaplhhnklaaDoor
