/-
  No cell of these rows narrows 'for every input' (looked for: loops, veiled, ifaces, maps, wideKeys, modest, calm, conditions, laid).
  DERIVED. THE GIVEN ROWS OF THIS SEAT. 11 by the template 'for every input the law returns true; each argument reads behind the call as it read before'; 0 by the template 'total and deterministic' (their statements: YtgglbohcnlcagaaTotals.lean).
  GIVEN WITH THE SEED: the statements are not yours to turn. If you find one false, say at which input.
  Laid BY PROGRAM, IN A SANDBOX (cutbox-rows.mjs): the forced cells as the released guide's own fill.sh prints them over the translation e16ecb34d74ad2ce… (all of the seat's roots in one cut). By AI agents, Wed Nov 11 2026. No macro, syntax, notation, axiom, sorry.
-/
import Derived.Test.YtgglbohcnlcagaaChecked
import GoSem.Claim
import GoSem.ClaimJoined
import GoSem.ClaimMapViews
import Derived.JoinedTies
import Derived.KernelRfl
namespace Go.Proofs.Ytgglbohcnlcagaa
/- THE CELL 'sum', in the pinned program and in every row, IS THE sha256 OF THE DUMP (.gsa) THAT YtgglbohcnlcagaaProg.lean LOADS. Nothing in Lean hashes anything: it is a label: what it is worth is what the hold of that sum in a sandbox is worth. -/
noncomputable def Try.pinned : Pinned := { name := "ytgglbohcnlcagaa", sum := "e16ecb34d74ad2ce9d19fcf40cf418c5b0cc91631e993421221e2fc32d510844", checked := Try.checked }
namespace Rows
def none {H : Type} : Left H := { results := [], args := [] }

/-- 'tidelinelaw11.FrameRises': WHATEVER THE INPUT: true; the input reads as it did. -/
def frameRisesSpec : ChangeSpec := { name := "frameRises", fn := fun _ => fun
  | [d] => { results := [.lit (.bool true)], args := [d] }
  | _ => none }
def frameRisesRow : OpenClaim := { program := "ytgglbohcnlcagaa", sum := "e16ecb34d74ad2ce9d19fcf40cf418c5b0cc91631e993421221e2fc32d510844", func := "tideline/tidelinelaw11.FrameRises", spec := "frameRises", unfollowed := true, recurses := true, apart := false }
def FrameRisesSaid : Prop := frameRisesRow.holds Try.pinned (OpenSpec.ofChange frameRisesSpec)

/-- ITS FALSE NEIGHBOUR: 'it returns false'. Refute it at one input. -/
def frameRisesWrong : ChangeSpec := { name := "frameRises", fn := fun _ => fun
  | [d] => { results := [.lit (.bool false)], args := [d] }
  | _ => none }
def FrameRisesWrongFalsely : Prop := frameRisesRow.holds Try.pinned (OpenSpec.ofChange frameRisesWrong)

/-- 'tidelinelaw11.FrameNames': WHATEVER THE INPUT: true; the input reads as it did. -/
def frameNamesSpec : ChangeSpec := { name := "frameNames", fn := fun _ => fun
  | [d1, d2, d3] => { results := [.lit (.bool true)], args := [d1, d2, d3] }
  | _ => none }
def frameNamesRow : OpenClaim := { program := "ytgglbohcnlcagaa", sum := "e16ecb34d74ad2ce9d19fcf40cf418c5b0cc91631e993421221e2fc32d510844", func := "tideline/tidelinelaw11.FrameNames", spec := "frameNames", apart := false }
def FrameNamesSaid : Prop := frameNamesRow.holds Try.pinned (OpenSpec.ofChange frameNamesSpec)

/-- ITS FALSE NEIGHBOUR: 'it returns false'. Refute it at one input. -/
def frameNamesWrong : ChangeSpec := { name := "frameNames", fn := fun _ => fun
  | [d1, d2, d3] => { results := [.lit (.bool false)], args := [d1, d2, d3] }
  | _ => none }
def FrameNamesWrongFalsely : Prop := frameNamesRow.holds Try.pinned (OpenSpec.ofChange frameNamesWrong)

/-- 'tidelinelaw11.FrameTells': WHATEVER THE INPUT: true; the input reads as it did. -/
def frameTellsSpec : ChangeSpec := { name := "frameTells", fn := fun _ => fun
  | [d1, d2] => { results := [.lit (.bool true)], args := [d1, d2] }
  | _ => none }
def frameTellsRow : OpenClaim := { program := "ytgglbohcnlcagaa", sum := "e16ecb34d74ad2ce9d19fcf40cf418c5b0cc91631e993421221e2fc32d510844", func := "tideline/tidelinelaw11.FrameTells", spec := "frameTells", apart := false }
def FrameTellsSaid : Prop := frameTellsRow.holds Try.pinned (OpenSpec.ofChange frameTellsSpec)

/-- ITS FALSE NEIGHBOUR: 'it returns false'. Refute it at one input. -/
def frameTellsWrong : ChangeSpec := { name := "frameTells", fn := fun _ => fun
  | [d1, d2] => { results := [.lit (.bool false)], args := [d1, d2] }
  | _ => none }
def FrameTellsWrongFalsely : Prop := frameTellsRow.holds Try.pinned (OpenSpec.ofChange frameTellsWrong)

/-- 'tidelinelaw06.TreeParts': WHATEVER THE INPUT: true; the input reads as it did. -/
def treePartsSpec : ChangeSpec := { name := "treeParts", fn := fun _ => fun
  | [d1, d2, d3] => { results := [.lit (.bool true)], args := [d1, d2, d3] }
  | _ => none }
def treePartsRow : OpenClaim := { program := "ytgglbohcnlcagaa", sum := "e16ecb34d74ad2ce9d19fcf40cf418c5b0cc91631e993421221e2fc32d510844", func := "tideline/tidelinelaw06.TreeParts", spec := "treeParts", unfollowed := true, recurses := true, apart := false }
def TreePartsSaid : Prop := treePartsRow.holds Try.pinned (OpenSpec.ofChange treePartsSpec)

/-- ITS FALSE NEIGHBOUR: 'it returns false'. Refute it at one input. -/
def treePartsWrong : ChangeSpec := { name := "treeParts", fn := fun _ => fun
  | [d1, d2, d3] => { results := [.lit (.bool false)], args := [d1, d2, d3] }
  | _ => none }
def TreePartsWrongFalsely : Prop := treePartsRow.holds Try.pinned (OpenSpec.ofChange treePartsWrong)

/-- 'tidelinelaw06.TreeTurned': WHATEVER THE INPUT: true; the input reads as it did. -/
def treeTurnedSpec : ChangeSpec := { name := "treeTurned", fn := fun _ => fun
  | [d1, d2] => { results := [.lit (.bool true)], args := [d1, d2] }
  | _ => none }
def treeTurnedRow : OpenClaim := { program := "ytgglbohcnlcagaa", sum := "e16ecb34d74ad2ce9d19fcf40cf418c5b0cc91631e993421221e2fc32d510844", func := "tideline/tidelinelaw06.TreeTurned", spec := "treeTurned", unfollowed := true, recurses := true, apart := false }
def TreeTurnedSaid : Prop := treeTurnedRow.holds Try.pinned (OpenSpec.ofChange treeTurnedSpec)

/-- ITS FALSE NEIGHBOUR: 'it returns false'. Refute it at one input. -/
def treeTurnedWrong : ChangeSpec := { name := "treeTurned", fn := fun _ => fun
  | [d1, d2] => { results := [.lit (.bool false)], args := [d1, d2] }
  | _ => none }
def TreeTurnedWrongFalsely : Prop := treeTurnedRow.holds Try.pinned (OpenSpec.ofChange treeTurnedWrong)

/-- 'tidelinelaw06.TreeTexts': WHATEVER THE INPUT: true; the input reads as it did. -/
def treeTextsSpec : ChangeSpec := { name := "treeTexts", fn := fun _ => fun
  | [d1, d2, d3] => { results := [.lit (.bool true)], args := [d1, d2, d3] }
  | _ => none }
def treeTextsRow : OpenClaim := { program := "ytgglbohcnlcagaa", sum := "e16ecb34d74ad2ce9d19fcf40cf418c5b0cc91631e993421221e2fc32d510844", func := "tideline/tidelinelaw06.TreeTexts", spec := "treeTexts", unfollowed := true, recurses := true, apart := false }
def TreeTextsSaid : Prop := treeTextsRow.holds Try.pinned (OpenSpec.ofChange treeTextsSpec)

/-- ITS FALSE NEIGHBOUR: 'it returns false'. Refute it at one input. -/
def treeTextsWrong : ChangeSpec := { name := "treeTexts", fn := fun _ => fun
  | [d1, d2, d3] => { results := [.lit (.bool false)], args := [d1, d2, d3] }
  | _ => none }
def TreeTextsWrongFalsely : Prop := treeTextsRow.holds Try.pinned (OpenSpec.ofChange treeTextsWrong)

/-- 'tidelinelaw06.TreeScript': WHATEVER THE INPUT: true; the input reads as it did. -/
def treeScriptSpec : ChangeSpec := { name := "treeScript", fn := fun _ => fun
  | [d] => { results := [.lit (.bool true)], args := [d] }
  | _ => none }
def treeScriptRow : OpenClaim := { program := "ytgglbohcnlcagaa", sum := "e16ecb34d74ad2ce9d19fcf40cf418c5b0cc91631e993421221e2fc32d510844", func := "tideline/tidelinelaw06.TreeScript", spec := "treeScript", unfollowed := true, recurses := true, apart := false }
def TreeScriptSaid : Prop := treeScriptRow.holds Try.pinned (OpenSpec.ofChange treeScriptSpec)

/-- ITS FALSE NEIGHBOUR: 'it returns false'. Refute it at one input. -/
def treeScriptWrong : ChangeSpec := { name := "treeScript", fn := fun _ => fun
  | [d] => { results := [.lit (.bool false)], args := [d] }
  | _ => none }
def TreeScriptWrongFalsely : Prop := treeScriptRow.holds Try.pinned (OpenSpec.ofChange treeScriptWrong)

/-- 'tidelinelaw11.FrameFirst': WHATEVER THE INPUT: true; the input reads as it did. -/
def frameFirstSpec : ChangeSpec := { name := "frameFirst", fn := fun _ => fun
  | [d1, d2, d3] => { results := [.lit (.bool true)], args := [d1, d2, d3] }
  | _ => none }
def frameFirstRow : OpenClaim := { program := "ytgglbohcnlcagaa", sum := "e16ecb34d74ad2ce9d19fcf40cf418c5b0cc91631e993421221e2fc32d510844", func := "tideline/tidelinelaw11.FrameFirst", spec := "frameFirst", apart := false }
def FrameFirstSaid : Prop := frameFirstRow.holds Try.pinned (OpenSpec.ofChange frameFirstSpec)

/-- ITS FALSE NEIGHBOUR: 'it returns false'. Refute it at one input. -/
def frameFirstWrong : ChangeSpec := { name := "frameFirst", fn := fun _ => fun
  | [d1, d2, d3] => { results := [.lit (.bool false)], args := [d1, d2, d3] }
  | _ => none }
def FrameFirstWrongFalsely : Prop := frameFirstRow.holds Try.pinned (OpenSpec.ofChange frameFirstWrong)

/-- 'tidelinelaw11.FrameAnswers': WHATEVER THE INPUT: true; the input reads as it did. -/
def frameAnswersSpec : ChangeSpec := { name := "frameAnswers", fn := fun _ => fun
  | [d1, d2, d3] => { results := [.lit (.bool true)], args := [d1, d2, d3] }
  | _ => none }
def frameAnswersRow : OpenClaim := { program := "ytgglbohcnlcagaa", sum := "e16ecb34d74ad2ce9d19fcf40cf418c5b0cc91631e993421221e2fc32d510844", func := "tideline/tidelinelaw11.FrameAnswers", spec := "frameAnswers", apart := false }
def FrameAnswersSaid : Prop := frameAnswersRow.holds Try.pinned (OpenSpec.ofChange frameAnswersSpec)

/-- ITS FALSE NEIGHBOUR: 'it returns false'. Refute it at one input. -/
def frameAnswersWrong : ChangeSpec := { name := "frameAnswers", fn := fun _ => fun
  | [d1, d2, d3] => { results := [.lit (.bool false)], args := [d1, d2, d3] }
  | _ => none }
def FrameAnswersWrongFalsely : Prop := frameAnswersRow.holds Try.pinned (OpenSpec.ofChange frameAnswersWrong)

/-- 'tidelinelaw06.TreeCosts': WHATEVER THE INPUT: true; the input reads as it did. -/
def treeCostsSpec : ChangeSpec := { name := "treeCosts", fn := fun _ => fun
  | [d] => { results := [.lit (.bool true)], args := [d] }
  | _ => none }
def treeCostsRow : OpenClaim := { program := "ytgglbohcnlcagaa", sum := "e16ecb34d74ad2ce9d19fcf40cf418c5b0cc91631e993421221e2fc32d510844", func := "tideline/tidelinelaw06.TreeCosts", spec := "treeCosts", unfollowed := true, recurses := true, apart := false }
def TreeCostsSaid : Prop := treeCostsRow.holds Try.pinned (OpenSpec.ofChange treeCostsSpec)

/-- ITS FALSE NEIGHBOUR: 'it returns false'. Refute it at one input. -/
def treeCostsWrong : ChangeSpec := { name := "treeCosts", fn := fun _ => fun
  | [d] => { results := [.lit (.bool false)], args := [d] }
  | _ => none }
def TreeCostsWrongFalsely : Prop := treeCostsRow.holds Try.pinned (OpenSpec.ofChange treeCostsWrong)

/-- 'tidelinelaw11.FrameTurns': WHATEVER THE INPUT: true; the input reads as it did. -/
def frameTurnsSpec : ChangeSpec := { name := "frameTurns", fn := fun _ => fun
  | [d1, d2, d3] => { results := [.lit (.bool true)], args := [d1, d2, d3] }
  | _ => none }
def frameTurnsRow : OpenClaim := { program := "ytgglbohcnlcagaa", sum := "e16ecb34d74ad2ce9d19fcf40cf418c5b0cc91631e993421221e2fc32d510844", func := "tideline/tidelinelaw11.FrameTurns", spec := "frameTurns", apart := false }
def FrameTurnsSaid : Prop := frameTurnsRow.holds Try.pinned (OpenSpec.ofChange frameTurnsSpec)

/-- ITS FALSE NEIGHBOUR: 'it returns false'. Refute it at one input. -/
def frameTurnsWrong : ChangeSpec := { name := "frameTurns", fn := fun _ => fun
  | [d1, d2, d3] => { results := [.lit (.bool false)], args := [d1, d2, d3] }
  | _ => none }
def FrameTurnsWrongFalsely : Prop := frameTurnsRow.holds Try.pinned (OpenSpec.ofChange frameTurnsWrong)

/- THE SECOND FORM. 'bulk': how many values and letters a reading holds, each counted each time it is reached (what is shared counts as often as it is met; a slice's spare places count too). A statement '..UptoSaid' is the law's where the arguments, and the package variables that the reading takes, are together of bulk at most 1048576: NARROWER than '..Said'. Prove '..Said' where nothing that the law and all that it calls make is longer than what came in: it says more and counts as full. Else prove '..UptoSaid'. A law counts once. -/
mutual
def uptoBulk {H : Type} : DataW H → Nat
  | .lit (.string bytes) => bytes.length + 1
  | .lit _ => 1
  | .nil => 1
  | .ptr d => uptoBulk d + 1
  | .slice elems spare => uptoBulkAll elems + uptoBulkAll spare + 1
  | .agg parts => uptoBulkAll parts + 1
  | .iface _ d => uptoBulk d + 1
  | .map entries => uptoBulkEntries entries + 1
  | .held _ => 1
def uptoBulkAll {H : Type} : List (DataW H) → Nat
  | [] => 0
  | d :: r => uptoBulk d + uptoBulkAll r
def uptoBulkEntries {H : Type} : List (Lit × DataW H) → Nat
  | [] => 0
  | x :: r => uptoBulkEntry x + uptoBulkEntries r
def uptoBulkEntry {H : Type} : Lit × DataW H → Nat
  | (.string bytes, d) => bytes.length + uptoBulk d + 1
  | (_, d) => uptoBulk d + 1
 end
def uptoSmall : (H : Type) → List (DataW H) → Bool := fun _ ds => decide (uptoBulkAll ds ≤ 1048576)
def OpenSpec.upto (s : _root_.Go.ChangeSpec) : _root_.Go.OpenSpec := { _root_.Go.OpenSpec.ofChange s with cond := some uptoSmall }

/-- 'tidelinelaw11.FrameRises', WHERE WHAT IT READS IS OF BULK AT MOST 1048576: true; the input reads as it did. -/
def frameRisesUptoRow : OpenClaim := { program := "ytgglbohcnlcagaa", sum := "e16ecb34d74ad2ce9d19fcf40cf418c5b0cc91631e993421221e2fc32d510844", func := "tideline/tidelinelaw11.FrameRises", spec := "frameRises", unfollowed := true, recurses := true, apart := false, narrowed := true }
def FrameRisesUptoSaid : Prop := frameRisesUptoRow.holds Try.pinned (OpenSpec.upto frameRisesSpec)

/-- 'tidelinelaw11.FrameNames', WHERE WHAT IT READS IS OF BULK AT MOST 1048576: true; the input reads as it did. -/
def frameNamesUptoRow : OpenClaim := { program := "ytgglbohcnlcagaa", sum := "e16ecb34d74ad2ce9d19fcf40cf418c5b0cc91631e993421221e2fc32d510844", func := "tideline/tidelinelaw11.FrameNames", spec := "frameNames", apart := false, narrowed := true }
def FrameNamesUptoSaid : Prop := frameNamesUptoRow.holds Try.pinned (OpenSpec.upto frameNamesSpec)

/-- 'tidelinelaw11.FrameTells', WHERE WHAT IT READS IS OF BULK AT MOST 1048576: true; the input reads as it did. -/
def frameTellsUptoRow : OpenClaim := { program := "ytgglbohcnlcagaa", sum := "e16ecb34d74ad2ce9d19fcf40cf418c5b0cc91631e993421221e2fc32d510844", func := "tideline/tidelinelaw11.FrameTells", spec := "frameTells", apart := false, narrowed := true }
def FrameTellsUptoSaid : Prop := frameTellsUptoRow.holds Try.pinned (OpenSpec.upto frameTellsSpec)

/-- 'tidelinelaw06.TreeParts', WHERE WHAT IT READS IS OF BULK AT MOST 1048576: true; the input reads as it did. -/
def treePartsUptoRow : OpenClaim := { program := "ytgglbohcnlcagaa", sum := "e16ecb34d74ad2ce9d19fcf40cf418c5b0cc91631e993421221e2fc32d510844", func := "tideline/tidelinelaw06.TreeParts", spec := "treeParts", unfollowed := true, recurses := true, apart := false, narrowed := true }
def TreePartsUptoSaid : Prop := treePartsUptoRow.holds Try.pinned (OpenSpec.upto treePartsSpec)

/-- 'tidelinelaw06.TreeTurned', WHERE WHAT IT READS IS OF BULK AT MOST 1048576: true; the input reads as it did. -/
def treeTurnedUptoRow : OpenClaim := { program := "ytgglbohcnlcagaa", sum := "e16ecb34d74ad2ce9d19fcf40cf418c5b0cc91631e993421221e2fc32d510844", func := "tideline/tidelinelaw06.TreeTurned", spec := "treeTurned", unfollowed := true, recurses := true, apart := false, narrowed := true }
def TreeTurnedUptoSaid : Prop := treeTurnedUptoRow.holds Try.pinned (OpenSpec.upto treeTurnedSpec)

/-- 'tidelinelaw06.TreeTexts', WHERE WHAT IT READS IS OF BULK AT MOST 1048576: true; the input reads as it did. -/
def treeTextsUptoRow : OpenClaim := { program := "ytgglbohcnlcagaa", sum := "e16ecb34d74ad2ce9d19fcf40cf418c5b0cc91631e993421221e2fc32d510844", func := "tideline/tidelinelaw06.TreeTexts", spec := "treeTexts", unfollowed := true, recurses := true, apart := false, narrowed := true }
def TreeTextsUptoSaid : Prop := treeTextsUptoRow.holds Try.pinned (OpenSpec.upto treeTextsSpec)

/-- 'tidelinelaw06.TreeScript', WHERE WHAT IT READS IS OF BULK AT MOST 1048576: true; the input reads as it did. -/
def treeScriptUptoRow : OpenClaim := { program := "ytgglbohcnlcagaa", sum := "e16ecb34d74ad2ce9d19fcf40cf418c5b0cc91631e993421221e2fc32d510844", func := "tideline/tidelinelaw06.TreeScript", spec := "treeScript", unfollowed := true, recurses := true, apart := false, narrowed := true }
def TreeScriptUptoSaid : Prop := treeScriptUptoRow.holds Try.pinned (OpenSpec.upto treeScriptSpec)

/-- 'tidelinelaw11.FrameFirst', WHERE WHAT IT READS IS OF BULK AT MOST 1048576: true; the input reads as it did. -/
def frameFirstUptoRow : OpenClaim := { program := "ytgglbohcnlcagaa", sum := "e16ecb34d74ad2ce9d19fcf40cf418c5b0cc91631e993421221e2fc32d510844", func := "tideline/tidelinelaw11.FrameFirst", spec := "frameFirst", apart := false, narrowed := true }
def FrameFirstUptoSaid : Prop := frameFirstUptoRow.holds Try.pinned (OpenSpec.upto frameFirstSpec)

/-- 'tidelinelaw11.FrameAnswers', WHERE WHAT IT READS IS OF BULK AT MOST 1048576: true; the input reads as it did. -/
def frameAnswersUptoRow : OpenClaim := { program := "ytgglbohcnlcagaa", sum := "e16ecb34d74ad2ce9d19fcf40cf418c5b0cc91631e993421221e2fc32d510844", func := "tideline/tidelinelaw11.FrameAnswers", spec := "frameAnswers", apart := false, narrowed := true }
def FrameAnswersUptoSaid : Prop := frameAnswersUptoRow.holds Try.pinned (OpenSpec.upto frameAnswersSpec)

/-- 'tidelinelaw06.TreeCosts', WHERE WHAT IT READS IS OF BULK AT MOST 1048576: true; the input reads as it did. -/
def treeCostsUptoRow : OpenClaim := { program := "ytgglbohcnlcagaa", sum := "e16ecb34d74ad2ce9d19fcf40cf418c5b0cc91631e993421221e2fc32d510844", func := "tideline/tidelinelaw06.TreeCosts", spec := "treeCosts", unfollowed := true, recurses := true, apart := false, narrowed := true }
def TreeCostsUptoSaid : Prop := treeCostsUptoRow.holds Try.pinned (OpenSpec.upto treeCostsSpec)

/-- 'tidelinelaw11.FrameTurns', WHERE WHAT IT READS IS OF BULK AT MOST 1048576: true; the input reads as it did. -/
def frameTurnsUptoRow : OpenClaim := { program := "ytgglbohcnlcagaa", sum := "e16ecb34d74ad2ce9d19fcf40cf418c5b0cc91631e993421221e2fc32d510844", func := "tideline/tidelinelaw11.FrameTurns", spec := "frameTurns", apart := false, narrowed := true }
def FrameTurnsUptoSaid : Prop := frameTurnsUptoRow.holds Try.pinned (OpenSpec.upto frameTurnsSpec)

end Rows
end Go.Proofs.Ytgglbohcnlcagaa
