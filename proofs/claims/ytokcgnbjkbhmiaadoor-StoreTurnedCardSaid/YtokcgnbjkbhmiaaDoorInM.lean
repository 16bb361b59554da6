/- A range over a function within a function that is walked in the plain mode. -/
import Derived.Test.YtokcgnbjkbhmiaaDoorReg
import Derived.RangeFuncNested
import Derived.RangeFuncBound
import Derived.RangeFuncCalls
import Derived.RangeFuncLeaves
import Derived.Shelf.Abstract
import Derived.OwnWalkIn
import Derived.TacticsInMore
namespace Go.Proofs.YtokcgnbjkbhmiaaDoor
open Go.RowKit Go.Shelf
set_option linter.unusedSimpArgs false
set_option linter.unusedVariables false

/-- The same, and nothing panics. -/
def NP (Q : Exit → Act → World → Prop) : Exit → Act → World → Prop
  | .panic _, _, _ => False
  | e, a, w => Q e a w
theorem np_of {Q : Exit → Act → World → Prop} : ∀ (e : Exit) (a : Act) (w : World), NP Q e a w → Q e a w
  | .panic _, _, _, h => h.elim
  | .normal, _, _, h => h
  | .ret, _, _, h => h
  | .exit _, _, _, h => h
  | .goto _, _, _, h => h
  | .outgrown, _, _, h => h
theorem gen_act {P : Program} {c : Code} {Q : Exit → Act → World → Prop} {T : Array Value} {ds : List Deferred} {w : World} (h : ∀ A : Array Value, Hid (A = T) → c.wp P Q { tmps := A, defers := ds } w) : c.wp P Q { tmps := T, defers := ds } w := h T (hid_mk rfl)
theorem calls_round {P : Program} {f : FuncId} {args : Array Value} {w : World} {R : Ending → World → Prop} {l n : Nat} (h : Calls P f args w R) : CallsIn (Fence.wide.inRound l) n P f args w R := (callsIn_wide (n := n)).2 h
theorem fold2 (A : Array Value) (p q : Nat) (a b : Value) : Array.foldl (fun t (x : Nat × Value) => t.setIfInBounds x.1 x.2) A (#[p, q].zip #[a, b]) = (A.setIfInBounds p a).setIfInBounds q b := by simp
theorem keepsFrom_ext {B : Nat} {X Y : World} (hx : Ext X Y) : KeepsFrom B X Y := ⟨hx.below.size, fun k o h1 h2 h3 => (hx.below.block k (Array.getElem?_eq_some_iff.1 h2).1).trans h2⟩
theorem keepsFrom_of {B : Nat} {X Y : World} (hx : Ext X Y) : KeepsFrom B X Y := keepsFrom_ext hx
end Go.Proofs.YtokcgnbjkbhmiaaDoor
