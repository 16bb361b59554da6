/-
  DERIVED. GIVEN WITH THE SEED: THE CARDS: each row of YtiimoaplhhnklaaDoorRows.lean that lists a variable, with what it lists TIED to the program's text (the seventh form; the later family's looks); each row that meets fmt, with fmt's text TOLD by the authors' own Lean function (tested against real Go, not proved from fmt's source: count such statements apart). THE CARD IS WHAT COUNTS. Prove the row's statement (the work); the ties are given (YtiimoaplhhnklaaDoorTie.lean); close each card by the builder's one call (the guide's Derived/Test/ToyasCard.lean, 'card_holds'). Laid BY PROGRAM, IN A SANDBOX (cutbox-door.mjs). By AI agents, Wed Nov 11 2026. No macro, syntax, notation, axiom, sorry.
-/
import Derived.Test.YtiimoaplhhnklaaDoorRows
import GoSem.ClaimSeven
namespace Go.Proofs.YtiimoaplhhnklaaDoor
namespace Rows

/-- THE TIED CARD OF 'tidelinelaw19.GhostTwins'. -/
def ghostTwinsCard : Claim7 := { stood := { row := ghostTwinsRow, standIns := [], harness := (true, "3e74e25cc896722d7e7bfc410cd7b1c7834c561f14a19d3ffcbc43c7ec9a9b47"), looks := false }, kinds := [], alts := [], laidByText := true, laidKinds := [.data], laidTests := true, laidLooks := .later }
def GhostTwinsCardSaid : Prop := Claim7.holds Tryd.pinned (.plain (OpenSpec.ofChange ghostTwinsSpec)) ghostTwinsCard

/-- THE TIED CARD OF 'tidelinelaw19.GhostJudges'. -/
def ghostJudgesCard : Claim7 := { stood := { row := ghostJudgesRow, standIns := [], harness := (true, "3e74e25cc896722d7e7bfc410cd7b1c7834c561f14a19d3ffcbc43c7ec9a9b47"), looks := false }, kinds := [], alts := [], laidByText := true, laidKinds := [.data], laidTests := true, laidLooks := .later }
def GhostJudgesCardSaid : Prop := Claim7.holds Tryd.pinned (.plain (OpenSpec.ofChange ghostJudgesSpec)) ghostJudgesCard

/-- THE TIED CARD OF 'tidelinelaw19.GhostMet'. -/
def ghostMetCard : Claim7 := { stood := { row := ghostMetRow, standIns := [], harness := (true, "3e74e25cc896722d7e7bfc410cd7b1c7834c561f14a19d3ffcbc43c7ec9a9b47"), looks := false }, kinds := [], alts := [], laidByText := true, laidKinds := [.data], laidTests := true, laidLooks := .later }
def GhostMetCardSaid : Prop := Claim7.holds Tryd.pinned (.plain (OpenSpec.ofChange ghostMetSpec)) ghostMetCard

/-- THE SECOND FORM's CARD OF 'tidelinelaw19.GhostTwins'. -/
def ghostTwinsUptoCard : Claim7 := { stood := { row := ghostTwinsUptoRow, standIns := [], harness := (true, "3e74e25cc896722d7e7bfc410cd7b1c7834c561f14a19d3ffcbc43c7ec9a9b47"), looks := false }, kinds := [], alts := [], laidByText := true, laidKinds := [.data], laidTests := true, laidLooks := .later }
def GhostTwinsUptoCardSaid : Prop := Claim7.holds Tryd.pinned (.plain (OpenSpec.upto ghostTwinsSpec)) ghostTwinsUptoCard

/-- THE SECOND FORM's CARD OF 'tidelinelaw19.GhostJudges'. -/
def ghostJudgesUptoCard : Claim7 := { stood := { row := ghostJudgesUptoRow, standIns := [], harness := (true, "3e74e25cc896722d7e7bfc410cd7b1c7834c561f14a19d3ffcbc43c7ec9a9b47"), looks := false }, kinds := [], alts := [], laidByText := true, laidKinds := [.data], laidTests := true, laidLooks := .later }
def GhostJudgesUptoCardSaid : Prop := Claim7.holds Tryd.pinned (.plain (OpenSpec.upto ghostJudgesSpec)) ghostJudgesUptoCard

/-- THE SECOND FORM's CARD OF 'tidelinelaw19.GhostMet'. -/
def ghostMetUptoCard : Claim7 := { stood := { row := ghostMetUptoRow, standIns := [], harness := (true, "3e74e25cc896722d7e7bfc410cd7b1c7834c561f14a19d3ffcbc43c7ec9a9b47"), looks := false }, kinds := [], alts := [], laidByText := true, laidKinds := [.data], laidTests := true, laidLooks := .later }
def GhostMetUptoCardSaid : Prop := Claim7.holds Tryd.pinned (.plain (OpenSpec.upto ghostMetSpec)) ghostMetUptoCard
end Rows
end Go.Proofs.YtiimoaplhhnklaaDoor
