/-
  No cell of these rows narrows 'for every input' (looked for: loops, veiled, ifaces, maps, wideKeys, modest, calm, conditions, laid).
  DERIVED. THE GIVEN ROWS OF THIS SEAT. 6 by the template 'for every input the law returns true; each argument reads behind the call as it read before'; 0 by the template 'total and deterministic' (their statements: YtiimoaplhhnklaaTotals.lean).
  GIVEN WITH THE SEED: the statements are not yours to turn. If you find one false, say at which input.
  Laid BY PROGRAM, IN A SANDBOX (cutbox-rows.mjs): the forced cells as the released guide's own fill.sh prints them over the translation f875650674ebc26b… (all of the seat's roots in one cut). By AI agents, Wed Nov 11 2026. No macro, syntax, notation, axiom, sorry.
-/
import Derived.Test.YtiimoaplhhnklaaChecked
import GoSem.Claim
import GoSem.ClaimJoined
import GoSem.ClaimMapViews
import Derived.JoinedTies
import Derived.KernelRfl
namespace Go.Proofs.Ytiimoaplhhnklaa
/- THE CELL 'sum', in the pinned program and in every row, IS THE sha256 OF THE DUMP (.gsa) THAT YtiimoaplhhnklaaProg.lean LOADS. Nothing in Lean hashes anything: it is a label: what it is worth is what the hold of that sum in a sandbox is worth. -/
noncomputable def Try.pinned : Pinned := { name := "ytiimoaplhhnklaa", sum := "f875650674ebc26b43f990a7207d9625478b7ccf4bfc62c4044f61ba47b2e099", checked := Try.checked }
namespace Rows
def none {H : Type} : Left H := { results := [], args := [] }

/-- 'tidelinelaw19.GhostScript': WHATEVER THE INPUT: true; the input reads as it did. -/
def ghostScriptSpec : ChangeSpec := { name := "ghostScript", fn := fun _ => fun
  | [d] => { results := [.lit (.bool true)], args := [d] }
  | _ => none }
def ghostScriptRow : OpenClaim := { program := "ytiimoaplhhnklaa", sum := "f875650674ebc26b43f990a7207d9625478b7ccf4bfc62c4044f61ba47b2e099", func := "tideline/tidelinelaw19.GhostScript", spec := "ghostScript", unfollowed := true, recurses := true, plainKeys := false, apart := false }
def GhostScriptSaid : Prop := ghostScriptRow.holds Try.pinned (OpenSpec.ofChange ghostScriptSpec)

/-- ITS FALSE NEIGHBOUR: 'it returns false'. Refute it at one input. -/
def ghostScriptWrong : ChangeSpec := { name := "ghostScript", fn := fun _ => fun
  | [d] => { results := [.lit (.bool false)], args := [d] }
  | _ => none }
def GhostScriptWrongFalsely : Prop := ghostScriptRow.holds Try.pinned (OpenSpec.ofChange ghostScriptWrong)

/-- 'tidelinelaw19.GhostUpward': WHATEVER THE INPUT: true; the input reads as it did. -/
def ghostUpwardSpec : ChangeSpec := { name := "ghostUpward", fn := fun _ => fun
  | [d1, d2, d3] => { results := [.lit (.bool true)], args := [d1, d2, d3] }
  | _ => none }
def ghostUpwardRow : OpenClaim := { program := "ytiimoaplhhnklaa", sum := "f875650674ebc26b43f990a7207d9625478b7ccf4bfc62c4044f61ba47b2e099", func := "tideline/tidelinelaw19.GhostUpward", spec := "ghostUpward", unfollowed := true, recurses := true, plainKeys := false, apart := false }
def GhostUpwardSaid : Prop := ghostUpwardRow.holds Try.pinned (OpenSpec.ofChange ghostUpwardSpec)

/-- ITS FALSE NEIGHBOUR: 'it returns false'. Refute it at one input. -/
def ghostUpwardWrong : ChangeSpec := { name := "ghostUpward", fn := fun _ => fun
  | [d1, d2, d3] => { results := [.lit (.bool false)], args := [d1, d2, d3] }
  | _ => none }
def GhostUpwardWrongFalsely : Prop := ghostUpwardRow.holds Try.pinned (OpenSpec.ofChange ghostUpwardWrong)

/-- 'tidelinelaw15.TimerLast': WHATEVER THE INPUT: true; the input reads as it did. -/
def timerLastSpec : ChangeSpec := { name := "timerLast", fn := fun _ => fun
  | [d1, d2] => { results := [.lit (.bool true)], args := [d1, d2] }
  | _ => none }
def timerLastRow : OpenClaim := { program := "ytiimoaplhhnklaa", sum := "f875650674ebc26b43f990a7207d9625478b7ccf4bfc62c4044f61ba47b2e099", func := "tideline/tidelinelaw15.TimerLast", spec := "timerLast", inPlace := ["slices.overlaps[tideline/timer.alarm]"], unfollowed := true, recurses := true, plainKeys := false, apart := false }
def TimerLastSaid : Prop := timerLastRow.holds Try.pinned (OpenSpec.ofChange timerLastSpec)

/-- ITS FALSE NEIGHBOUR: 'it returns false'. Refute it at one input. -/
def timerLastWrong : ChangeSpec := { name := "timerLast", fn := fun _ => fun
  | [d1, d2] => { results := [.lit (.bool false)], args := [d1, d2] }
  | _ => none }
def TimerLastWrongFalsely : Prop := timerLastRow.holds Try.pinned (OpenSpec.ofChange timerLastWrong)

/-- 'tidelinelaw15.TimerScript': WHATEVER THE INPUT: true; the input reads as it did. -/
def timerScriptSpec : ChangeSpec := { name := "timerScript", fn := fun _ => fun
  | [d] => { results := [.lit (.bool true)], args := [d] }
  | _ => none }
def timerScriptRow : OpenClaim := { program := "ytiimoaplhhnklaa", sum := "f875650674ebc26b43f990a7207d9625478b7ccf4bfc62c4044f61ba47b2e099", func := "tideline/tidelinelaw15.TimerScript", spec := "timerScript", inPlace := ["slices.overlaps[tideline/timer.alarm]"], unfollowed := true, recurses := true, plainKeys := false, apart := false }
def TimerScriptSaid : Prop := timerScriptRow.holds Try.pinned (OpenSpec.ofChange timerScriptSpec)

/-- ITS FALSE NEIGHBOUR: 'it returns false'. Refute it at one input. -/
def timerScriptWrong : ChangeSpec := { name := "timerScript", fn := fun _ => fun
  | [d] => { results := [.lit (.bool false)], args := [d] }
  | _ => none }
def TimerScriptWrongFalsely : Prop := timerScriptRow.holds Try.pinned (OpenSpec.ofChange timerScriptWrong)

/-- 'tidelinelaw15.TimerKept': WHATEVER THE INPUT: true; the input reads as it did. -/
def timerKeptSpec : ChangeSpec := { name := "timerKept", fn := fun _ => fun
  | [d1, d2, d3] => { results := [.lit (.bool true)], args := [d1, d2, d3] }
  | _ => none }
def timerKeptRow : OpenClaim := { program := "ytiimoaplhhnklaa", sum := "f875650674ebc26b43f990a7207d9625478b7ccf4bfc62c4044f61ba47b2e099", func := "tideline/tidelinelaw15.TimerKept", spec := "timerKept", inPlace := ["slices.overlaps[tideline/timer.alarm]"], unfollowed := true, recurses := true, plainKeys := false, apart := false }
def TimerKeptSaid : Prop := timerKeptRow.holds Try.pinned (OpenSpec.ofChange timerKeptSpec)

/-- ITS FALSE NEIGHBOUR: 'it returns false'. Refute it at one input. -/
def timerKeptWrong : ChangeSpec := { name := "timerKept", fn := fun _ => fun
  | [d1, d2, d3] => { results := [.lit (.bool false)], args := [d1, d2, d3] }
  | _ => none }
def TimerKeptWrongFalsely : Prop := timerKeptRow.holds Try.pinned (OpenSpec.ofChange timerKeptWrong)

/-- 'tidelinelaw15.TimerDrains': WHATEVER THE INPUT: true; the input reads as it did. -/
def timerDrainsSpec : ChangeSpec := { name := "timerDrains", fn := fun _ => fun
  | [d] => { results := [.lit (.bool true)], args := [d] }
  | _ => none }
def timerDrainsRow : OpenClaim := { program := "ytiimoaplhhnklaa", sum := "f875650674ebc26b43f990a7207d9625478b7ccf4bfc62c4044f61ba47b2e099", func := "tideline/tidelinelaw15.TimerDrains", spec := "timerDrains", inPlace := ["slices.overlaps[tideline/timer.alarm]"], unfollowed := true, recurses := true, plainKeys := false, apart := false }
def TimerDrainsSaid : Prop := timerDrainsRow.holds Try.pinned (OpenSpec.ofChange timerDrainsSpec)

/-- ITS FALSE NEIGHBOUR: 'it returns false'. Refute it at one input. -/
def timerDrainsWrong : ChangeSpec := { name := "timerDrains", fn := fun _ => fun
  | [d] => { results := [.lit (.bool false)], args := [d] }
  | _ => none }
def TimerDrainsWrongFalsely : Prop := timerDrainsRow.holds Try.pinned (OpenSpec.ofChange timerDrainsWrong)

/- THE SECOND FORM. 'bulk': how many values and letters a reading holds, each counted each time it is reached (what is shared counts as often as it is met; a slice's spare places count too). A statement '..UptoSaid' is the law's where the arguments, and the package variables that the reading takes, are together of bulk at most 1048576: NARROWER than '..Said'. Prove '..Said' where nothing that the law and all that it calls make is longer than what came in: it says more and counts as full. Else prove '..UptoSaid'. A law counts once. -/
mutual
def uptoBulk {H : Type} : DataW H → Nat
  | .lit (.string bytes) => bytes.length + 1
  | .lit _ => 1
  | .nil => 1
  | .ptr d => uptoBulk d + 1
  | .slice elems spare => uptoBulkAll elems + uptoBulkAll spare + 1
  | .agg parts => uptoBulkAll parts + 1
  | .iface _ d => uptoBulk d + 1
  | .map entries => uptoBulkEntries entries + 1
  | .held _ => 1
def uptoBulkAll {H : Type} : List (DataW H) → Nat
  | [] => 0
  | d :: r => uptoBulk d + uptoBulkAll r
def uptoBulkEntries {H : Type} : List (Lit × DataW H) → Nat
  | [] => 0
  | x :: r => uptoBulkEntry x + uptoBulkEntries r
def uptoBulkEntry {H : Type} : Lit × DataW H → Nat
  | (.string bytes, d) => bytes.length + uptoBulk d + 1
  | (_, d) => uptoBulk d + 1
 end
def uptoSmall : (H : Type) → List (DataW H) → Bool := fun _ ds => decide (uptoBulkAll ds ≤ 1048576)
def OpenSpec.upto (s : _root_.Go.ChangeSpec) : _root_.Go.OpenSpec := { _root_.Go.OpenSpec.ofChange s with cond := some uptoSmall }

/-- 'tidelinelaw19.GhostScript', WHERE WHAT IT READS IS OF BULK AT MOST 1048576: true; the input reads as it did. -/
def ghostScriptUptoRow : OpenClaim := { program := "ytiimoaplhhnklaa", sum := "f875650674ebc26b43f990a7207d9625478b7ccf4bfc62c4044f61ba47b2e099", func := "tideline/tidelinelaw19.GhostScript", spec := "ghostScript", unfollowed := true, recurses := true, plainKeys := false, apart := false, narrowed := true }
def GhostScriptUptoSaid : Prop := ghostScriptUptoRow.holds Try.pinned (OpenSpec.upto ghostScriptSpec)

/-- 'tidelinelaw19.GhostUpward', WHERE WHAT IT READS IS OF BULK AT MOST 1048576: true; the input reads as it did. -/
def ghostUpwardUptoRow : OpenClaim := { program := "ytiimoaplhhnklaa", sum := "f875650674ebc26b43f990a7207d9625478b7ccf4bfc62c4044f61ba47b2e099", func := "tideline/tidelinelaw19.GhostUpward", spec := "ghostUpward", unfollowed := true, recurses := true, plainKeys := false, apart := false, narrowed := true }
def GhostUpwardUptoSaid : Prop := ghostUpwardUptoRow.holds Try.pinned (OpenSpec.upto ghostUpwardSpec)

/-- 'tidelinelaw15.TimerLast', WHERE WHAT IT READS IS OF BULK AT MOST 1048576: true; the input reads as it did. -/
def timerLastUptoRow : OpenClaim := { program := "ytiimoaplhhnklaa", sum := "f875650674ebc26b43f990a7207d9625478b7ccf4bfc62c4044f61ba47b2e099", func := "tideline/tidelinelaw15.TimerLast", spec := "timerLast", inPlace := ["slices.overlaps[tideline/timer.alarm]"], unfollowed := true, recurses := true, plainKeys := false, apart := false, narrowed := true }
def TimerLastUptoSaid : Prop := timerLastUptoRow.holds Try.pinned (OpenSpec.upto timerLastSpec)

/-- 'tidelinelaw15.TimerScript', WHERE WHAT IT READS IS OF BULK AT MOST 1048576: true; the input reads as it did. -/
def timerScriptUptoRow : OpenClaim := { program := "ytiimoaplhhnklaa", sum := "f875650674ebc26b43f990a7207d9625478b7ccf4bfc62c4044f61ba47b2e099", func := "tideline/tidelinelaw15.TimerScript", spec := "timerScript", inPlace := ["slices.overlaps[tideline/timer.alarm]"], unfollowed := true, recurses := true, plainKeys := false, apart := false, narrowed := true }
def TimerScriptUptoSaid : Prop := timerScriptUptoRow.holds Try.pinned (OpenSpec.upto timerScriptSpec)

/-- 'tidelinelaw15.TimerKept', WHERE WHAT IT READS IS OF BULK AT MOST 1048576: true; the input reads as it did. -/
def timerKeptUptoRow : OpenClaim := { program := "ytiimoaplhhnklaa", sum := "f875650674ebc26b43f990a7207d9625478b7ccf4bfc62c4044f61ba47b2e099", func := "tideline/tidelinelaw15.TimerKept", spec := "timerKept", inPlace := ["slices.overlaps[tideline/timer.alarm]"], unfollowed := true, recurses := true, plainKeys := false, apart := false, narrowed := true }
def TimerKeptUptoSaid : Prop := timerKeptUptoRow.holds Try.pinned (OpenSpec.upto timerKeptSpec)

/-- 'tidelinelaw15.TimerDrains', WHERE WHAT IT READS IS OF BULK AT MOST 1048576: true; the input reads as it did. -/
def timerDrainsUptoRow : OpenClaim := { program := "ytiimoaplhhnklaa", sum := "f875650674ebc26b43f990a7207d9625478b7ccf4bfc62c4044f61ba47b2e099", func := "tideline/tidelinelaw15.TimerDrains", spec := "timerDrains", inPlace := ["slices.overlaps[tideline/timer.alarm]"], unfollowed := true, recurses := true, plainKeys := false, apart := false, narrowed := true }
def TimerDrainsUptoSaid : Prop := timerDrainsUptoRow.holds Try.pinned (OpenSpec.upto timerDrainsSpec)

end Rows
end Go.Proofs.Ytiimoaplhhnklaa
