/- Ghosts: Sees. -/
import Derived.Test.YtiimoaplhhnklaaDoorHD
import Derived.Test.YtiimoaplhhnklaaDoorInM
namespace Go.Proofs.YtiimoaplhhnklaaDoor
open Go.RowKit Go.Shelf
set_option maxHeartbeats 4000000
set_option maxRecDepth 100000
set_option linter.unusedSimpArgs false
set_option linter.unusedVariables false
attribute [local go_sem] Oper.semAt_some
attribute [local go_sem ↓] eql_entE neq_entE

def badP (A : List Ent) (p : Ent × Ent) : Option (ByteArray × Int) := if newer p.1 p.2 then some (p.1.key, 191) else if findN (nk p.2) A = some p.2 then none else some (p.2.key, 192)
def seesP (A : List Ent) (ps : List (Ent × Ent)) : Option (ByteArray × Int) := ps.findSome? (badP A)
def seesO (n : Int) (l : List Ent) (A : List Ent) (ls : Nat → List Ent) : Option (ByteArray × Int) := if isNd n = false then some (⟨#[]⟩, 1) else if mChk l ≠ 0 then some (⟨#[]⟩, mChk l) else seesP A (prs (ls n.toNat) l)
def seesR (n : Int) (l : List Ent) (A : List Ent) (ls : Nat → List Ent) : ByteArray × Int := (seesO n l A ls).getD (⟨#[]⟩, 0)
def upd {α : Type} (f : Nat → α) (k : Nat) (v : α) : Nat → α := fun i => if i = k then v else f i
def seesLs (n : Int) (l : List Ent) (A : List Ent) (ls : Nat → List Ent) : Nat → List Ent := if seesO n l A ls = none then upd ls n.toNat l else ls
theorem gen_contH {K : Act → World → Prop} {Q : Exit → Act → World → Prop} {a : Act} {w : World} (R : World → Prop) (h0 : R w) (h : ∀ W, R W → Exit.then K Q .normal a W) : Exit.then K Q .normal a w := h w h0
theorem xl_cat {L : List Nat} {a b c : World} (h : Xl L a b) (k : Xl L b c) : Xl L a c := Xl.trans _ _ _ h k
theorem xl_cat' {L L' : List Nat} {a b c : World} (h : Xl L a b) (k : Xl L' b c) (hL : ∀ x ∈ L', a.heap.size ≤ x) : Xl L a c :=
  ⟨k.os.trans h.os, k.tape.trans h.tape, k.output.trans h.output, Nat.le_trans h.size k.size, fun x hx hn => (k.block x (Nat.lt_of_lt_of_le hx h.size) (fun hm => by have := hL x hm; omega)).trans (h.block x hx hn)⟩
theorem xl_put {L : List Nat} (W : World) (D : Nat) (o : Obj) (h : D ∈ L) : Xl L W (W.putObj D o) :=
  have g := grownBy_putObj' W D o
  ⟨g.os, g.tape, g.output, g.size, fun k hk hn => g.block k hk (fun e => by cases e; exact hn h)⟩
theorem entAt_own {X Y : World} {row : Option Nat} {B o : Nat} {e : Ent} (h : EntAt X B o e) (hg : X.grownBy Y row) (hr : ∀ r, row = some r → ∃ o : Obj, X.heap[r]? = some o ∧ o.isCells = false) : EntAt Y B o e :=
  ⟨cell_kept h.c0 hg hr, cell_kept h.c1 hg hr, cell_kept h.c2 hg hr, cell_kept h.c3 hg hr, cell_kept h.c4 hg hr⟩
end Go.Proofs.YtiimoaplhhnklaaDoor
