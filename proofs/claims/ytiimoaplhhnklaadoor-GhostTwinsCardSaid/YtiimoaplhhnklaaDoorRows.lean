/-
  NARROWER THAN 'FOR EVERY INPUT', by the rows' own cells (each row's printed sentence says how): GhostTwins: laid · GhostJudges: laid · GhostMet: laid.
  DERIVED. THE GIVEN ROWS OF THIS SEAT. 3 by the template 'for every input the law returns true; each argument reads behind the call as it read before'; 0 by the template 'total and deterministic' (their statements: YtiimoaplhhnklaaDoorTotals.lean).
  GIVEN WITH THE SEED: the statements are not yours to turn. If you find one false, say at which input.
  Laid BY PROGRAM, IN A SANDBOX (cutbox-rows.mjs): the forced cells as the released guide's own fill.sh prints them over the translation 6d141231777289c6… (all of the seat's roots in one cut). By AI agents, Wed Nov 11 2026. No macro, syntax, notation, axiom, sorry.
-/
import Derived.Test.YtiimoaplhhnklaaDoorChecked
import GoSem.Claim
import GoSem.ClaimJoined
import GoSem.ClaimMapViews
import Derived.JoinedTies
import Derived.KernelRfl
namespace Go.Proofs.YtiimoaplhhnklaaDoor
/- THE CELL 'sum', in the pinned program and in every row, IS THE sha256 OF THE DUMP (.gsa) THAT YtiimoaplhhnklaaDoorProg.lean LOADS. Nothing in Lean hashes anything: it is a label: what it is worth is what the hold of that sum in a sandbox is worth. -/
noncomputable def Tryd.pinned : Pinned := { name := "ytiimoaplhhnklaadoor", sum := "6d141231777289c6b2e1cc27acd633067151b0ba9263715c0fcf728cb2afdbe9", checked := Tryd.checked }
namespace Rows
def none {H : Type} : Left H := { results := [], args := [] }

/- WHAT THE LISTED PACKAGE-LEVEL VARIABLES READ AS WHEN THE CALL BEGINS. Each datum BY PROGRAM (the guide's laid-datum.mjs) off the statement by which the dump's own 'gosem.cut.vars' lays the variable. In a bare row this is a premise. The card (YtiimoaplhhnklaaDoorCards.lean) ties it to the program's text. -/
def laid_tideline_mix_lanes {H : Type} : DataW H := .agg [.agg [.lit (.int .u64 2611923443488327891), .lit (.int .u64 11400714819323198485), .lit (.int .i64 29)], .agg [.lit (.int .u64 1376283091369227076), .lit (.int .u64 14029467366897019727), .lit (.int .i64 32)]]

/-- 'tidelinelaw19.GhostTwins': WHATEVER THE INPUT: true; the input reads as it did. -/
def ghostTwinsSpec : ChangeSpec := { name := "ghostTwins", fn := fun _ => fun
  | [d1, d2, d3, d4] => { results := [.lit (.bool true)], args := [d1, d2, d3, d4] }
  | _ => none }
def ghostTwinsRow : OpenClaim := { program := "ytiimoaplhhnklaadoor", sum := "6d141231777289c6b2e1cc27acd633067151b0ba9263715c0fcf728cb2afdbe9", func := "tideline/tidelinelaw19.GhostTwins", spec := "ghostTwins", unfollowed := true, recurses := true, named := ["tideline/mix.lanes"], apart := false, laid := [("tideline/mix.lanes", laid_tideline_mix_lanes)] }
def GhostTwinsSaid : Prop := ghostTwinsRow.holds Tryd.pinned (OpenSpec.ofChange ghostTwinsSpec)

/-- ITS FALSE NEIGHBOUR: 'it returns false'. Refute it at one input. -/
def ghostTwinsWrong : ChangeSpec := { name := "ghostTwins", fn := fun _ => fun
  | [d1, d2, d3, d4] => { results := [.lit (.bool false)], args := [d1, d2, d3, d4] }
  | _ => none }
def GhostTwinsWrongFalsely : Prop := ghostTwinsRow.holds Tryd.pinned (OpenSpec.ofChange ghostTwinsWrong)

/-- 'tidelinelaw19.GhostJudges': WHATEVER THE INPUT: true; the input reads as it did. -/
def ghostJudgesSpec : ChangeSpec := { name := "ghostJudges", fn := fun _ => fun
  | [d1, d2, d3, d4, d5, d6] => { results := [.lit (.bool true)], args := [d1, d2, d3, d4, d5, d6] }
  | _ => none }
def ghostJudgesRow : OpenClaim := { program := "ytiimoaplhhnklaadoor", sum := "6d141231777289c6b2e1cc27acd633067151b0ba9263715c0fcf728cb2afdbe9", func := "tideline/tidelinelaw19.GhostJudges", spec := "ghostJudges", unfollowed := true, recurses := true, named := ["tideline/mix.lanes"], apart := false, laid := [("tideline/mix.lanes", laid_tideline_mix_lanes)] }
def GhostJudgesSaid : Prop := ghostJudgesRow.holds Tryd.pinned (OpenSpec.ofChange ghostJudgesSpec)

/-- ITS FALSE NEIGHBOUR: 'it returns false'. Refute it at one input. -/
def ghostJudgesWrong : ChangeSpec := { name := "ghostJudges", fn := fun _ => fun
  | [d1, d2, d3, d4, d5, d6] => { results := [.lit (.bool false)], args := [d1, d2, d3, d4, d5, d6] }
  | _ => none }
def GhostJudgesWrongFalsely : Prop := ghostJudgesRow.holds Tryd.pinned (OpenSpec.ofChange ghostJudgesWrong)

/-- 'tidelinelaw19.GhostMet': WHATEVER THE INPUT: true; the input reads as it did. -/
def ghostMetSpec : ChangeSpec := { name := "ghostMet", fn := fun _ => fun
  | [d1, d2, d3, d4] => { results := [.lit (.bool true)], args := [d1, d2, d3, d4] }
  | _ => none }
def ghostMetRow : OpenClaim := { program := "ytiimoaplhhnklaadoor", sum := "6d141231777289c6b2e1cc27acd633067151b0ba9263715c0fcf728cb2afdbe9", func := "tideline/tidelinelaw19.GhostMet", spec := "ghostMet", unfollowed := true, recurses := true, named := ["tideline/mix.lanes"], apart := false, laid := [("tideline/mix.lanes", laid_tideline_mix_lanes)] }
def GhostMetSaid : Prop := ghostMetRow.holds Tryd.pinned (OpenSpec.ofChange ghostMetSpec)

/-- ITS FALSE NEIGHBOUR: 'it returns false'. Refute it at one input. -/
def ghostMetWrong : ChangeSpec := { name := "ghostMet", fn := fun _ => fun
  | [d1, d2, d3, d4] => { results := [.lit (.bool false)], args := [d1, d2, d3, d4] }
  | _ => none }
def GhostMetWrongFalsely : Prop := ghostMetRow.holds Tryd.pinned (OpenSpec.ofChange ghostMetWrong)

/- THE SECOND FORM. 'bulk': how many values and letters a reading holds, each counted each time it is reached (what is shared counts as often as it is met; a slice's spare places count too). A statement '..UptoSaid' is the law's where the arguments, and the package variables that the reading takes, are together of bulk at most 1048576: NARROWER than '..Said'. Prove '..Said' where nothing that the law and all that it calls make is longer than what came in: it says more and counts as full. Else prove '..UptoSaid'. A law counts once. -/
mutual
def uptoBulk {H : Type} : DataW H → Nat
  | .lit (.string bytes) => bytes.length + 1
  | .lit _ => 1
  | .nil => 1
  | .ptr d => uptoBulk d + 1
  | .slice elems spare => uptoBulkAll elems + uptoBulkAll spare + 1
  | .agg parts => uptoBulkAll parts + 1
  | .iface _ d => uptoBulk d + 1
  | .map entries => uptoBulkEntries entries + 1
  | .held _ => 1
def uptoBulkAll {H : Type} : List (DataW H) → Nat
  | [] => 0
  | d :: r => uptoBulk d + uptoBulkAll r
def uptoBulkEntries {H : Type} : List (Lit × DataW H) → Nat
  | [] => 0
  | x :: r => uptoBulkEntry x + uptoBulkEntries r
def uptoBulkEntry {H : Type} : Lit × DataW H → Nat
  | (.string bytes, d) => bytes.length + uptoBulk d + 1
  | (_, d) => uptoBulk d + 1
 end
def uptoSmall : (H : Type) → List (DataW H) → Bool := fun _ ds => decide (uptoBulkAll ds ≤ 1048576)
def OpenSpec.upto (s : _root_.Go.ChangeSpec) : _root_.Go.OpenSpec := { _root_.Go.OpenSpec.ofChange s with cond := some uptoSmall }

/-- 'tidelinelaw19.GhostTwins', WHERE WHAT IT READS IS OF BULK AT MOST 1048576: true; the input reads as it did. -/
def ghostTwinsUptoRow : OpenClaim := { program := "ytiimoaplhhnklaadoor", sum := "6d141231777289c6b2e1cc27acd633067151b0ba9263715c0fcf728cb2afdbe9", func := "tideline/tidelinelaw19.GhostTwins", spec := "ghostTwins", unfollowed := true, recurses := true, named := ["tideline/mix.lanes"], apart := false, laid := [("tideline/mix.lanes", laid_tideline_mix_lanes)], narrowed := true }
def GhostTwinsUptoSaid : Prop := ghostTwinsUptoRow.holds Tryd.pinned (OpenSpec.upto ghostTwinsSpec)

/-- 'tidelinelaw19.GhostJudges', WHERE WHAT IT READS IS OF BULK AT MOST 1048576: true; the input reads as it did. -/
def ghostJudgesUptoRow : OpenClaim := { program := "ytiimoaplhhnklaadoor", sum := "6d141231777289c6b2e1cc27acd633067151b0ba9263715c0fcf728cb2afdbe9", func := "tideline/tidelinelaw19.GhostJudges", spec := "ghostJudges", unfollowed := true, recurses := true, named := ["tideline/mix.lanes"], apart := false, laid := [("tideline/mix.lanes", laid_tideline_mix_lanes)], narrowed := true }
def GhostJudgesUptoSaid : Prop := ghostJudgesUptoRow.holds Tryd.pinned (OpenSpec.upto ghostJudgesSpec)

/-- 'tidelinelaw19.GhostMet', WHERE WHAT IT READS IS OF BULK AT MOST 1048576: true; the input reads as it did. -/
def ghostMetUptoRow : OpenClaim := { program := "ytiimoaplhhnklaadoor", sum := "6d141231777289c6b2e1cc27acd633067151b0ba9263715c0fcf728cb2afdbe9", func := "tideline/tidelinelaw19.GhostMet", spec := "ghostMet", unfollowed := true, recurses := true, named := ["tideline/mix.lanes"], apart := false, laid := [("tideline/mix.lanes", laid_tideline_mix_lanes)], narrowed := true }
def GhostMetUptoSaid : Prop := ghostMetUptoRow.holds Tryd.pinned (OpenSpec.upto ghostMetSpec)

end Rows
end Go.Proofs.YtiimoaplhhnklaaDoor
