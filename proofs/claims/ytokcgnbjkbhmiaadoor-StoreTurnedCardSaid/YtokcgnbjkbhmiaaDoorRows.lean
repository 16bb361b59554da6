/-
  NARROWER THAN 'FOR EVERY INPUT', by the rows' own cells (each row's printed sentence says how): MatchPrint: laid · StoreNew: laid · StoreTurned: laid · StoreFills: laid · StoreUp: laid · MatchOnce: laid · MatchSame: laid · MatchMeets: laid · StoreFolds: laid · MatchTiles: laid.
  DERIVED. THE GIVEN ROWS OF THIS SEAT. 10 by the template 'for every input the law returns true; each argument reads behind the call as it read before'; 0 by the template 'total and deterministic' (their statements: YtokcgnbjkbhmiaaDoorTotals.lean).
  GIVEN WITH THE SEED: the statements are not yours to turn. If you find one false, say at which input.
  Laid BY PROGRAM, IN A SANDBOX (cutbox-rows.mjs): the forced cells as the released guide's own fill.sh prints them over the translation b5d5648ee9770d93… (all of the seat's roots in one cut). By AI agents, Wed Nov 11 2026. No macro, syntax, notation, axiom, sorry.
-/
import Derived.Test.YtokcgnbjkbhmiaaDoorChecked
import GoSem.Claim
import GoSem.ClaimJoined
import GoSem.ClaimMapViews
import Derived.JoinedTies
import Derived.KernelRfl
namespace Go.Proofs.YtokcgnbjkbhmiaaDoor
/- THE CELL 'sum', in the pinned program and in every row, IS THE sha256 OF THE DUMP (.gsa) THAT YtokcgnbjkbhmiaaDoorProg.lean LOADS. Nothing in Lean hashes anything: it is a label: what it is worth is what the hold of that sum in a sandbox is worth. -/
noncomputable def Tryd.pinned : Pinned := { name := "ytokcgnbjkbhmiaadoor", sum := "b5d5648ee9770d93e6e14f78c9deec53f670702bd9876d9a1e9f43175a6c1b92", checked := Tryd.checked }
namespace Rows
def none {H : Type} : Left H := { results := [], args := [] }

/- WHAT THE LISTED PACKAGE-LEVEL VARIABLES READ AS WHEN THE CALL BEGINS. Each datum BY PROGRAM (the guide's laid-datum.mjs) off the statement by which the dump's own 'gosem.cut.vars' lays the variable. In a bare row this is a premise. The card (YtokcgnbjkbhmiaaDoorCards.lean) ties it to the program's text. -/
def laid_tideline_mix_lanes {H : Type} : DataW H := .agg [.agg [.lit (.int .u64 2611923443488327891), .lit (.int .u64 11400714819323198485), .lit (.int .i64 29)], .agg [.lit (.int .u64 1376283091369227076), .lit (.int .u64 14029467366897019727), .lit (.int .i64 32)]]

/-- 'tidelinelaw13.MatchPrint': WHATEVER THE INPUT: true; the input reads as it did. -/
def matchPrintSpec : ChangeSpec := { name := "matchPrint", fn := fun _ => fun
  | [d1, d2] => { results := [.lit (.bool true)], args := [d1, d2] }
  | _ => none }
def matchPrintRow : OpenClaim := { program := "ytokcgnbjkbhmiaadoor", sum := "b5d5648ee9770d93e6e14f78c9deec53f670702bd9876d9a1e9f43175a6c1b92", func := "tideline/tidelinelaw13.MatchPrint", spec := "matchPrint", unfollowed := true, recurses := true, named := ["tideline/mix.lanes"], apart := false, laid := [("tideline/mix.lanes", laid_tideline_mix_lanes)] }
def MatchPrintSaid : Prop := matchPrintRow.holds Tryd.pinned (OpenSpec.ofChange matchPrintSpec)

/-- ITS FALSE NEIGHBOUR: 'it returns false'. Refute it at one input. -/
def matchPrintWrong : ChangeSpec := { name := "matchPrint", fn := fun _ => fun
  | [d1, d2] => { results := [.lit (.bool false)], args := [d1, d2] }
  | _ => none }
def MatchPrintWrongFalsely : Prop := matchPrintRow.holds Tryd.pinned (OpenSpec.ofChange matchPrintWrong)

/-- 'tidelinelaw08.StoreNew': WHATEVER THE INPUT: true; the input reads as it did. -/
def storeNewSpec : ChangeSpec := { name := "storeNew", fn := fun _ => fun
  | [d] => { results := [.lit (.bool true)], args := [d] }
  | _ => none }
def storeNewRow : OpenClaim := { program := "ytokcgnbjkbhmiaadoor", sum := "b5d5648ee9770d93e6e14f78c9deec53f670702bd9876d9a1e9f43175a6c1b92", func := "tideline/tidelinelaw08.StoreNew", spec := "storeNew", unfollowed := true, recurses := true, named := ["tideline/mix.lanes"], apart := false, laid := [("tideline/mix.lanes", laid_tideline_mix_lanes)] }
def StoreNewSaid : Prop := storeNewRow.holds Tryd.pinned (OpenSpec.ofChange storeNewSpec)

/-- ITS FALSE NEIGHBOUR: 'it returns false'. Refute it at one input. -/
def storeNewWrong : ChangeSpec := { name := "storeNew", fn := fun _ => fun
  | [d] => { results := [.lit (.bool false)], args := [d] }
  | _ => none }
def StoreNewWrongFalsely : Prop := storeNewRow.holds Tryd.pinned (OpenSpec.ofChange storeNewWrong)

/-- 'tidelinelaw08.StoreTurned': WHATEVER THE INPUT: true; the input reads as it did. -/
def storeTurnedSpec : ChangeSpec := { name := "storeTurned", fn := fun _ => fun
  | [d1, d2] => { results := [.lit (.bool true)], args := [d1, d2] }
  | _ => none }
def storeTurnedRow : OpenClaim := { program := "ytokcgnbjkbhmiaadoor", sum := "b5d5648ee9770d93e6e14f78c9deec53f670702bd9876d9a1e9f43175a6c1b92", func := "tideline/tidelinelaw08.StoreTurned", spec := "storeTurned", unfollowed := true, recurses := true, named := ["tideline/mix.lanes"], apart := false, laid := [("tideline/mix.lanes", laid_tideline_mix_lanes)] }
def StoreTurnedSaid : Prop := storeTurnedRow.holds Tryd.pinned (OpenSpec.ofChange storeTurnedSpec)

/-- ITS FALSE NEIGHBOUR: 'it returns false'. Refute it at one input. -/
def storeTurnedWrong : ChangeSpec := { name := "storeTurned", fn := fun _ => fun
  | [d1, d2] => { results := [.lit (.bool false)], args := [d1, d2] }
  | _ => none }
def StoreTurnedWrongFalsely : Prop := storeTurnedRow.holds Tryd.pinned (OpenSpec.ofChange storeTurnedWrong)

/-- 'tidelinelaw08.StoreFills': WHATEVER THE INPUT: true; the input reads as it did. -/
def storeFillsSpec : ChangeSpec := { name := "storeFills", fn := fun _ => fun
  | [d1, d2, d3, d4, d5] => { results := [.lit (.bool true)], args := [d1, d2, d3, d4, d5] }
  | _ => none }
def storeFillsRow : OpenClaim := { program := "ytokcgnbjkbhmiaadoor", sum := "b5d5648ee9770d93e6e14f78c9deec53f670702bd9876d9a1e9f43175a6c1b92", func := "tideline/tidelinelaw08.StoreFills", spec := "storeFills", unfollowed := true, recurses := true, named := ["tideline/mix.lanes"], apart := false, laid := [("tideline/mix.lanes", laid_tideline_mix_lanes)] }
def StoreFillsSaid : Prop := storeFillsRow.holds Tryd.pinned (OpenSpec.ofChange storeFillsSpec)

/-- ITS FALSE NEIGHBOUR: 'it returns false'. Refute it at one input. -/
def storeFillsWrong : ChangeSpec := { name := "storeFills", fn := fun _ => fun
  | [d1, d2, d3, d4, d5] => { results := [.lit (.bool false)], args := [d1, d2, d3, d4, d5] }
  | _ => none }
def StoreFillsWrongFalsely : Prop := storeFillsRow.holds Tryd.pinned (OpenSpec.ofChange storeFillsWrong)

/-- 'tidelinelaw08.StoreUp': WHATEVER THE INPUT: true; the input reads as it did. -/
def storeUpSpec : ChangeSpec := { name := "storeUp", fn := fun _ => fun
  | [d1, d2] => { results := [.lit (.bool true)], args := [d1, d2] }
  | _ => none }
def storeUpRow : OpenClaim := { program := "ytokcgnbjkbhmiaadoor", sum := "b5d5648ee9770d93e6e14f78c9deec53f670702bd9876d9a1e9f43175a6c1b92", func := "tideline/tidelinelaw08.StoreUp", spec := "storeUp", unfollowed := true, recurses := true, named := ["tideline/mix.lanes"], apart := false, laid := [("tideline/mix.lanes", laid_tideline_mix_lanes)] }
def StoreUpSaid : Prop := storeUpRow.holds Tryd.pinned (OpenSpec.ofChange storeUpSpec)

/-- ITS FALSE NEIGHBOUR: 'it returns false'. Refute it at one input. -/
def storeUpWrong : ChangeSpec := { name := "storeUp", fn := fun _ => fun
  | [d1, d2] => { results := [.lit (.bool false)], args := [d1, d2] }
  | _ => none }
def StoreUpWrongFalsely : Prop := storeUpRow.holds Tryd.pinned (OpenSpec.ofChange storeUpWrong)

/-- 'tidelinelaw13.MatchOnce': WHATEVER THE INPUT: true; the input reads as it did. -/
def matchOnceSpec : ChangeSpec := { name := "matchOnce", fn := fun _ => fun
  | [d1, d2] => { results := [.lit (.bool true)], args := [d1, d2] }
  | _ => none }
def matchOnceRow : OpenClaim := { program := "ytokcgnbjkbhmiaadoor", sum := "b5d5648ee9770d93e6e14f78c9deec53f670702bd9876d9a1e9f43175a6c1b92", func := "tideline/tidelinelaw13.MatchOnce", spec := "matchOnce", unfollowed := true, recurses := true, named := ["tideline/mix.lanes"], apart := false, laid := [("tideline/mix.lanes", laid_tideline_mix_lanes)] }
def MatchOnceSaid : Prop := matchOnceRow.holds Tryd.pinned (OpenSpec.ofChange matchOnceSpec)

/-- ITS FALSE NEIGHBOUR: 'it returns false'. Refute it at one input. -/
def matchOnceWrong : ChangeSpec := { name := "matchOnce", fn := fun _ => fun
  | [d1, d2] => { results := [.lit (.bool false)], args := [d1, d2] }
  | _ => none }
def MatchOnceWrongFalsely : Prop := matchOnceRow.holds Tryd.pinned (OpenSpec.ofChange matchOnceWrong)

/-- 'tidelinelaw13.MatchSame': WHATEVER THE INPUT: true; the input reads as it did. -/
def matchSameSpec : ChangeSpec := { name := "matchSame", fn := fun _ => fun
  | [d1, d2, d3, d4] => { results := [.lit (.bool true)], args := [d1, d2, d3, d4] }
  | _ => none }
def matchSameRow : OpenClaim := { program := "ytokcgnbjkbhmiaadoor", sum := "b5d5648ee9770d93e6e14f78c9deec53f670702bd9876d9a1e9f43175a6c1b92", func := "tideline/tidelinelaw13.MatchSame", spec := "matchSame", unfollowed := true, recurses := true, named := ["tideline/mix.lanes"], apart := false, laid := [("tideline/mix.lanes", laid_tideline_mix_lanes)] }
def MatchSameSaid : Prop := matchSameRow.holds Tryd.pinned (OpenSpec.ofChange matchSameSpec)

/-- ITS FALSE NEIGHBOUR: 'it returns false'. Refute it at one input. -/
def matchSameWrong : ChangeSpec := { name := "matchSame", fn := fun _ => fun
  | [d1, d2, d3, d4] => { results := [.lit (.bool false)], args := [d1, d2, d3, d4] }
  | _ => none }
def MatchSameWrongFalsely : Prop := matchSameRow.holds Tryd.pinned (OpenSpec.ofChange matchSameWrong)

/-- 'tidelinelaw13.MatchMeets': WHATEVER THE INPUT: true; the input reads as it did. -/
def matchMeetsSpec : ChangeSpec := { name := "matchMeets", fn := fun _ => fun
  | [d1, d2, d3] => { results := [.lit (.bool true)], args := [d1, d2, d3] }
  | _ => none }
def matchMeetsRow : OpenClaim := { program := "ytokcgnbjkbhmiaadoor", sum := "b5d5648ee9770d93e6e14f78c9deec53f670702bd9876d9a1e9f43175a6c1b92", func := "tideline/tidelinelaw13.MatchMeets", spec := "matchMeets", unfollowed := true, recurses := true, named := ["tideline/mix.lanes"], apart := false, laid := [("tideline/mix.lanes", laid_tideline_mix_lanes)] }
def MatchMeetsSaid : Prop := matchMeetsRow.holds Tryd.pinned (OpenSpec.ofChange matchMeetsSpec)

/-- ITS FALSE NEIGHBOUR: 'it returns false'. Refute it at one input. -/
def matchMeetsWrong : ChangeSpec := { name := "matchMeets", fn := fun _ => fun
  | [d1, d2, d3] => { results := [.lit (.bool false)], args := [d1, d2, d3] }
  | _ => none }
def MatchMeetsWrongFalsely : Prop := matchMeetsRow.holds Tryd.pinned (OpenSpec.ofChange matchMeetsWrong)

/-- 'tidelinelaw08.StoreFolds': WHATEVER THE INPUT: true; the input reads as it did. -/
def storeFoldsSpec : ChangeSpec := { name := "storeFolds", fn := fun _ => fun
  | [d1, d2, d3] => { results := [.lit (.bool true)], args := [d1, d2, d3] }
  | _ => none }
def storeFoldsRow : OpenClaim := { program := "ytokcgnbjkbhmiaadoor", sum := "b5d5648ee9770d93e6e14f78c9deec53f670702bd9876d9a1e9f43175a6c1b92", func := "tideline/tidelinelaw08.StoreFolds", spec := "storeFolds", unfollowed := true, recurses := true, named := ["tideline/mix.lanes"], apart := false, laid := [("tideline/mix.lanes", laid_tideline_mix_lanes)] }
def StoreFoldsSaid : Prop := storeFoldsRow.holds Tryd.pinned (OpenSpec.ofChange storeFoldsSpec)

/-- ITS FALSE NEIGHBOUR: 'it returns false'. Refute it at one input. -/
def storeFoldsWrong : ChangeSpec := { name := "storeFolds", fn := fun _ => fun
  | [d1, d2, d3] => { results := [.lit (.bool false)], args := [d1, d2, d3] }
  | _ => none }
def StoreFoldsWrongFalsely : Prop := storeFoldsRow.holds Tryd.pinned (OpenSpec.ofChange storeFoldsWrong)

/-- 'tidelinelaw13.MatchTiles': WHATEVER THE INPUT: true; the input reads as it did. -/
def matchTilesSpec : ChangeSpec := { name := "matchTiles", fn := fun _ => fun
  | [d1, d2, d3, d4] => { results := [.lit (.bool true)], args := [d1, d2, d3, d4] }
  | _ => none }
def matchTilesRow : OpenClaim := { program := "ytokcgnbjkbhmiaadoor", sum := "b5d5648ee9770d93e6e14f78c9deec53f670702bd9876d9a1e9f43175a6c1b92", func := "tideline/tidelinelaw13.MatchTiles", spec := "matchTiles", unfollowed := true, recurses := true, named := ["tideline/mix.lanes"], apart := false, laid := [("tideline/mix.lanes", laid_tideline_mix_lanes)] }
def MatchTilesSaid : Prop := matchTilesRow.holds Tryd.pinned (OpenSpec.ofChange matchTilesSpec)

/-- ITS FALSE NEIGHBOUR: 'it returns false'. Refute it at one input. -/
def matchTilesWrong : ChangeSpec := { name := "matchTiles", fn := fun _ => fun
  | [d1, d2, d3, d4] => { results := [.lit (.bool false)], args := [d1, d2, d3, d4] }
  | _ => none }
def MatchTilesWrongFalsely : Prop := matchTilesRow.holds Tryd.pinned (OpenSpec.ofChange matchTilesWrong)

/- THE SECOND FORM. 'bulk': how many values and letters a reading holds, each counted each time it is reached (what is shared counts as often as it is met; a slice's spare places count too). A statement '..UptoSaid' is the law's where the arguments, and the package variables that the reading takes, are together of bulk at most 1048576: NARROWER than '..Said'. Prove '..Said' where nothing that the law and all that it calls make is longer than what came in: it says more and counts as full. Else prove '..UptoSaid'. A law counts once. -/
mutual
def uptoBulk {H : Type} : DataW H → Nat
  | .lit (.string bytes) => bytes.length + 1
  | .lit _ => 1
  | .nil => 1
  | .ptr d => uptoBulk d + 1
  | .slice elems spare => uptoBulkAll elems + uptoBulkAll spare + 1
  | .agg parts => uptoBulkAll parts + 1
  | .iface _ d => uptoBulk d + 1
  | .map entries => uptoBulkEntries entries + 1
  | .held _ => 1
def uptoBulkAll {H : Type} : List (DataW H) → Nat
  | [] => 0
  | d :: r => uptoBulk d + uptoBulkAll r
def uptoBulkEntries {H : Type} : List (Lit × DataW H) → Nat
  | [] => 0
  | x :: r => uptoBulkEntry x + uptoBulkEntries r
def uptoBulkEntry {H : Type} : Lit × DataW H → Nat
  | (.string bytes, d) => bytes.length + uptoBulk d + 1
  | (_, d) => uptoBulk d + 1
 end
def uptoSmall : (H : Type) → List (DataW H) → Bool := fun _ ds => decide (uptoBulkAll ds ≤ 1048576)
def OpenSpec.upto (s : _root_.Go.ChangeSpec) : _root_.Go.OpenSpec := { _root_.Go.OpenSpec.ofChange s with cond := some uptoSmall }

/-- 'tidelinelaw13.MatchPrint', WHERE WHAT IT READS IS OF BULK AT MOST 1048576: true; the input reads as it did. -/
def matchPrintUptoRow : OpenClaim := { program := "ytokcgnbjkbhmiaadoor", sum := "b5d5648ee9770d93e6e14f78c9deec53f670702bd9876d9a1e9f43175a6c1b92", func := "tideline/tidelinelaw13.MatchPrint", spec := "matchPrint", unfollowed := true, recurses := true, named := ["tideline/mix.lanes"], apart := false, laid := [("tideline/mix.lanes", laid_tideline_mix_lanes)], narrowed := true }
def MatchPrintUptoSaid : Prop := matchPrintUptoRow.holds Tryd.pinned (OpenSpec.upto matchPrintSpec)

/-- 'tidelinelaw08.StoreNew', WHERE WHAT IT READS IS OF BULK AT MOST 1048576: true; the input reads as it did. -/
def storeNewUptoRow : OpenClaim := { program := "ytokcgnbjkbhmiaadoor", sum := "b5d5648ee9770d93e6e14f78c9deec53f670702bd9876d9a1e9f43175a6c1b92", func := "tideline/tidelinelaw08.StoreNew", spec := "storeNew", unfollowed := true, recurses := true, named := ["tideline/mix.lanes"], apart := false, laid := [("tideline/mix.lanes", laid_tideline_mix_lanes)], narrowed := true }
def StoreNewUptoSaid : Prop := storeNewUptoRow.holds Tryd.pinned (OpenSpec.upto storeNewSpec)

/-- 'tidelinelaw08.StoreTurned', WHERE WHAT IT READS IS OF BULK AT MOST 1048576: true; the input reads as it did. -/
def storeTurnedUptoRow : OpenClaim := { program := "ytokcgnbjkbhmiaadoor", sum := "b5d5648ee9770d93e6e14f78c9deec53f670702bd9876d9a1e9f43175a6c1b92", func := "tideline/tidelinelaw08.StoreTurned", spec := "storeTurned", unfollowed := true, recurses := true, named := ["tideline/mix.lanes"], apart := false, laid := [("tideline/mix.lanes", laid_tideline_mix_lanes)], narrowed := true }
def StoreTurnedUptoSaid : Prop := storeTurnedUptoRow.holds Tryd.pinned (OpenSpec.upto storeTurnedSpec)

/-- 'tidelinelaw08.StoreFills', WHERE WHAT IT READS IS OF BULK AT MOST 1048576: true; the input reads as it did. -/
def storeFillsUptoRow : OpenClaim := { program := "ytokcgnbjkbhmiaadoor", sum := "b5d5648ee9770d93e6e14f78c9deec53f670702bd9876d9a1e9f43175a6c1b92", func := "tideline/tidelinelaw08.StoreFills", spec := "storeFills", unfollowed := true, recurses := true, named := ["tideline/mix.lanes"], apart := false, laid := [("tideline/mix.lanes", laid_tideline_mix_lanes)], narrowed := true }
def StoreFillsUptoSaid : Prop := storeFillsUptoRow.holds Tryd.pinned (OpenSpec.upto storeFillsSpec)

/-- 'tidelinelaw08.StoreUp', WHERE WHAT IT READS IS OF BULK AT MOST 1048576: true; the input reads as it did. -/
def storeUpUptoRow : OpenClaim := { program := "ytokcgnbjkbhmiaadoor", sum := "b5d5648ee9770d93e6e14f78c9deec53f670702bd9876d9a1e9f43175a6c1b92", func := "tideline/tidelinelaw08.StoreUp", spec := "storeUp", unfollowed := true, recurses := true, named := ["tideline/mix.lanes"], apart := false, laid := [("tideline/mix.lanes", laid_tideline_mix_lanes)], narrowed := true }
def StoreUpUptoSaid : Prop := storeUpUptoRow.holds Tryd.pinned (OpenSpec.upto storeUpSpec)

/-- 'tidelinelaw13.MatchOnce', WHERE WHAT IT READS IS OF BULK AT MOST 1048576: true; the input reads as it did. -/
def matchOnceUptoRow : OpenClaim := { program := "ytokcgnbjkbhmiaadoor", sum := "b5d5648ee9770d93e6e14f78c9deec53f670702bd9876d9a1e9f43175a6c1b92", func := "tideline/tidelinelaw13.MatchOnce", spec := "matchOnce", unfollowed := true, recurses := true, named := ["tideline/mix.lanes"], apart := false, laid := [("tideline/mix.lanes", laid_tideline_mix_lanes)], narrowed := true }
def MatchOnceUptoSaid : Prop := matchOnceUptoRow.holds Tryd.pinned (OpenSpec.upto matchOnceSpec)

/-- 'tidelinelaw13.MatchSame', WHERE WHAT IT READS IS OF BULK AT MOST 1048576: true; the input reads as it did. -/
def matchSameUptoRow : OpenClaim := { program := "ytokcgnbjkbhmiaadoor", sum := "b5d5648ee9770d93e6e14f78c9deec53f670702bd9876d9a1e9f43175a6c1b92", func := "tideline/tidelinelaw13.MatchSame", spec := "matchSame", unfollowed := true, recurses := true, named := ["tideline/mix.lanes"], apart := false, laid := [("tideline/mix.lanes", laid_tideline_mix_lanes)], narrowed := true }
def MatchSameUptoSaid : Prop := matchSameUptoRow.holds Tryd.pinned (OpenSpec.upto matchSameSpec)

/-- 'tidelinelaw13.MatchMeets', WHERE WHAT IT READS IS OF BULK AT MOST 1048576: true; the input reads as it did. -/
def matchMeetsUptoRow : OpenClaim := { program := "ytokcgnbjkbhmiaadoor", sum := "b5d5648ee9770d93e6e14f78c9deec53f670702bd9876d9a1e9f43175a6c1b92", func := "tideline/tidelinelaw13.MatchMeets", spec := "matchMeets", unfollowed := true, recurses := true, named := ["tideline/mix.lanes"], apart := false, laid := [("tideline/mix.lanes", laid_tideline_mix_lanes)], narrowed := true }
def MatchMeetsUptoSaid : Prop := matchMeetsUptoRow.holds Tryd.pinned (OpenSpec.upto matchMeetsSpec)

/-- 'tidelinelaw08.StoreFolds', WHERE WHAT IT READS IS OF BULK AT MOST 1048576: true; the input reads as it did. -/
def storeFoldsUptoRow : OpenClaim := { program := "ytokcgnbjkbhmiaadoor", sum := "b5d5648ee9770d93e6e14f78c9deec53f670702bd9876d9a1e9f43175a6c1b92", func := "tideline/tidelinelaw08.StoreFolds", spec := "storeFolds", unfollowed := true, recurses := true, named := ["tideline/mix.lanes"], apart := false, laid := [("tideline/mix.lanes", laid_tideline_mix_lanes)], narrowed := true }
def StoreFoldsUptoSaid : Prop := storeFoldsUptoRow.holds Tryd.pinned (OpenSpec.upto storeFoldsSpec)

/-- 'tidelinelaw13.MatchTiles', WHERE WHAT IT READS IS OF BULK AT MOST 1048576: true; the input reads as it did. -/
def matchTilesUptoRow : OpenClaim := { program := "ytokcgnbjkbhmiaadoor", sum := "b5d5648ee9770d93e6e14f78c9deec53f670702bd9876d9a1e9f43175a6c1b92", func := "tideline/tidelinelaw13.MatchTiles", spec := "matchTiles", unfollowed := true, recurses := true, named := ["tideline/mix.lanes"], apart := false, laid := [("tideline/mix.lanes", laid_tideline_mix_lanes)], narrowed := true }
def MatchTilesUptoSaid : Prop := matchTilesUptoRow.holds Tryd.pinned (OpenSpec.upto matchTilesSpec)

end Rows
end Go.Proofs.YtokcgnbjkbhmiaaDoor
