/-
  DERIVED. GIVEN WITH THE SEED: THE CARDS: each row of YtokcgnbjkbhmiaaDoorRows.lean that lists a variable, with what it lists TIED to the program's text (the seventh form; the later family's looks); each row that meets fmt, with fmt's text TOLD by the authors' own Lean function (tested against real Go, not proved from fmt's source: count such statements apart). THE CARD IS WHAT COUNTS. Prove the row's statement (the work); the ties are given (YtokcgnbjkbhmiaaDoorTie.lean); close each card by the builder's one call (the guide's Derived/Test/ToyasCard.lean, 'card_holds'). Laid BY PROGRAM, IN A SANDBOX (cutbox-door.mjs). By AI agents, Wed Nov 11 2026. No macro, syntax, notation, axiom, sorry.
-/
import Derived.Test.YtokcgnbjkbhmiaaDoorRows
import GoSem.ClaimSeven
namespace Go.Proofs.YtokcgnbjkbhmiaaDoor
namespace Rows

/-- THE TIED CARD OF 'tidelinelaw13.MatchPrint'. -/
def matchPrintCard : Claim7 := { stood := { row := matchPrintRow, standIns := [], harness := (true, "75af6b1a67402ee53174add1138896b9866a34e88f0a55261651643709f35bea"), looks := false }, kinds := [], alts := [], laidByText := true, laidKinds := [.data], laidTests := true, laidLooks := .later }
def MatchPrintCardSaid : Prop := Claim7.holds Tryd.pinned (.plain (OpenSpec.ofChange matchPrintSpec)) matchPrintCard

/-- THE TIED CARD OF 'tidelinelaw08.StoreNew'. -/
def storeNewCard : Claim7 := { stood := { row := storeNewRow, standIns := [], harness := (true, "75af6b1a67402ee53174add1138896b9866a34e88f0a55261651643709f35bea"), looks := false }, kinds := [], alts := [], laidByText := true, laidKinds := [.data], laidTests := true, laidLooks := .later }
def StoreNewCardSaid : Prop := Claim7.holds Tryd.pinned (.plain (OpenSpec.ofChange storeNewSpec)) storeNewCard

/-- THE TIED CARD OF 'tidelinelaw08.StoreTurned'. -/
def storeTurnedCard : Claim7 := { stood := { row := storeTurnedRow, standIns := [], harness := (true, "75af6b1a67402ee53174add1138896b9866a34e88f0a55261651643709f35bea"), looks := false }, kinds := [], alts := [], laidByText := true, laidKinds := [.data], laidTests := true, laidLooks := .later }
def StoreTurnedCardSaid : Prop := Claim7.holds Tryd.pinned (.plain (OpenSpec.ofChange storeTurnedSpec)) storeTurnedCard

/-- THE TIED CARD OF 'tidelinelaw08.StoreFills'. -/
def storeFillsCard : Claim7 := { stood := { row := storeFillsRow, standIns := [], harness := (true, "75af6b1a67402ee53174add1138896b9866a34e88f0a55261651643709f35bea"), looks := false }, kinds := [], alts := [], laidByText := true, laidKinds := [.data], laidTests := true, laidLooks := .later }
def StoreFillsCardSaid : Prop := Claim7.holds Tryd.pinned (.plain (OpenSpec.ofChange storeFillsSpec)) storeFillsCard

/-- THE TIED CARD OF 'tidelinelaw08.StoreUp'. -/
def storeUpCard : Claim7 := { stood := { row := storeUpRow, standIns := [], harness := (true, "75af6b1a67402ee53174add1138896b9866a34e88f0a55261651643709f35bea"), looks := false }, kinds := [], alts := [], laidByText := true, laidKinds := [.data], laidTests := true, laidLooks := .later }
def StoreUpCardSaid : Prop := Claim7.holds Tryd.pinned (.plain (OpenSpec.ofChange storeUpSpec)) storeUpCard

/-- THE TIED CARD OF 'tidelinelaw13.MatchOnce'. -/
def matchOnceCard : Claim7 := { stood := { row := matchOnceRow, standIns := [], harness := (true, "75af6b1a67402ee53174add1138896b9866a34e88f0a55261651643709f35bea"), looks := false }, kinds := [], alts := [], laidByText := true, laidKinds := [.data], laidTests := true, laidLooks := .later }
def MatchOnceCardSaid : Prop := Claim7.holds Tryd.pinned (.plain (OpenSpec.ofChange matchOnceSpec)) matchOnceCard

/-- THE TIED CARD OF 'tidelinelaw13.MatchSame'. -/
def matchSameCard : Claim7 := { stood := { row := matchSameRow, standIns := [], harness := (true, "75af6b1a67402ee53174add1138896b9866a34e88f0a55261651643709f35bea"), looks := false }, kinds := [], alts := [], laidByText := true, laidKinds := [.data], laidTests := true, laidLooks := .later }
def MatchSameCardSaid : Prop := Claim7.holds Tryd.pinned (.plain (OpenSpec.ofChange matchSameSpec)) matchSameCard

/-- THE TIED CARD OF 'tidelinelaw13.MatchMeets'. -/
def matchMeetsCard : Claim7 := { stood := { row := matchMeetsRow, standIns := [], harness := (true, "75af6b1a67402ee53174add1138896b9866a34e88f0a55261651643709f35bea"), looks := false }, kinds := [], alts := [], laidByText := true, laidKinds := [.data], laidTests := true, laidLooks := .later }
def MatchMeetsCardSaid : Prop := Claim7.holds Tryd.pinned (.plain (OpenSpec.ofChange matchMeetsSpec)) matchMeetsCard

/-- THE TIED CARD OF 'tidelinelaw08.StoreFolds'. -/
def storeFoldsCard : Claim7 := { stood := { row := storeFoldsRow, standIns := [], harness := (true, "75af6b1a67402ee53174add1138896b9866a34e88f0a55261651643709f35bea"), looks := false }, kinds := [], alts := [], laidByText := true, laidKinds := [.data], laidTests := true, laidLooks := .later }
def StoreFoldsCardSaid : Prop := Claim7.holds Tryd.pinned (.plain (OpenSpec.ofChange storeFoldsSpec)) storeFoldsCard

/-- THE TIED CARD OF 'tidelinelaw13.MatchTiles'. -/
def matchTilesCard : Claim7 := { stood := { row := matchTilesRow, standIns := [], harness := (true, "75af6b1a67402ee53174add1138896b9866a34e88f0a55261651643709f35bea"), looks := false }, kinds := [], alts := [], laidByText := true, laidKinds := [.data], laidTests := true, laidLooks := .later }
def MatchTilesCardSaid : Prop := Claim7.holds Tryd.pinned (.plain (OpenSpec.ofChange matchTilesSpec)) matchTilesCard

/-- THE SECOND FORM's CARD OF 'tidelinelaw13.MatchPrint'. -/
def matchPrintUptoCard : Claim7 := { stood := { row := matchPrintUptoRow, standIns := [], harness := (true, "75af6b1a67402ee53174add1138896b9866a34e88f0a55261651643709f35bea"), looks := false }, kinds := [], alts := [], laidByText := true, laidKinds := [.data], laidTests := true, laidLooks := .later }
def MatchPrintUptoCardSaid : Prop := Claim7.holds Tryd.pinned (.plain (OpenSpec.upto matchPrintSpec)) matchPrintUptoCard

/-- THE SECOND FORM's CARD OF 'tidelinelaw08.StoreNew'. -/
def storeNewUptoCard : Claim7 := { stood := { row := storeNewUptoRow, standIns := [], harness := (true, "75af6b1a67402ee53174add1138896b9866a34e88f0a55261651643709f35bea"), looks := false }, kinds := [], alts := [], laidByText := true, laidKinds := [.data], laidTests := true, laidLooks := .later }
def StoreNewUptoCardSaid : Prop := Claim7.holds Tryd.pinned (.plain (OpenSpec.upto storeNewSpec)) storeNewUptoCard

/-- THE SECOND FORM's CARD OF 'tidelinelaw08.StoreTurned'. -/
def storeTurnedUptoCard : Claim7 := { stood := { row := storeTurnedUptoRow, standIns := [], harness := (true, "75af6b1a67402ee53174add1138896b9866a34e88f0a55261651643709f35bea"), looks := false }, kinds := [], alts := [], laidByText := true, laidKinds := [.data], laidTests := true, laidLooks := .later }
def StoreTurnedUptoCardSaid : Prop := Claim7.holds Tryd.pinned (.plain (OpenSpec.upto storeTurnedSpec)) storeTurnedUptoCard

/-- THE SECOND FORM's CARD OF 'tidelinelaw08.StoreFills'. -/
def storeFillsUptoCard : Claim7 := { stood := { row := storeFillsUptoRow, standIns := [], harness := (true, "75af6b1a67402ee53174add1138896b9866a34e88f0a55261651643709f35bea"), looks := false }, kinds := [], alts := [], laidByText := true, laidKinds := [.data], laidTests := true, laidLooks := .later }
def StoreFillsUptoCardSaid : Prop := Claim7.holds Tryd.pinned (.plain (OpenSpec.upto storeFillsSpec)) storeFillsUptoCard

/-- THE SECOND FORM's CARD OF 'tidelinelaw08.StoreUp'. -/
def storeUpUptoCard : Claim7 := { stood := { row := storeUpUptoRow, standIns := [], harness := (true, "75af6b1a67402ee53174add1138896b9866a34e88f0a55261651643709f35bea"), looks := false }, kinds := [], alts := [], laidByText := true, laidKinds := [.data], laidTests := true, laidLooks := .later }
def StoreUpUptoCardSaid : Prop := Claim7.holds Tryd.pinned (.plain (OpenSpec.upto storeUpSpec)) storeUpUptoCard

/-- THE SECOND FORM's CARD OF 'tidelinelaw13.MatchOnce'. -/
def matchOnceUptoCard : Claim7 := { stood := { row := matchOnceUptoRow, standIns := [], harness := (true, "75af6b1a67402ee53174add1138896b9866a34e88f0a55261651643709f35bea"), looks := false }, kinds := [], alts := [], laidByText := true, laidKinds := [.data], laidTests := true, laidLooks := .later }
def MatchOnceUptoCardSaid : Prop := Claim7.holds Tryd.pinned (.plain (OpenSpec.upto matchOnceSpec)) matchOnceUptoCard

/-- THE SECOND FORM's CARD OF 'tidelinelaw13.MatchSame'. -/
def matchSameUptoCard : Claim7 := { stood := { row := matchSameUptoRow, standIns := [], harness := (true, "75af6b1a67402ee53174add1138896b9866a34e88f0a55261651643709f35bea"), looks := false }, kinds := [], alts := [], laidByText := true, laidKinds := [.data], laidTests := true, laidLooks := .later }
def MatchSameUptoCardSaid : Prop := Claim7.holds Tryd.pinned (.plain (OpenSpec.upto matchSameSpec)) matchSameUptoCard

/-- THE SECOND FORM's CARD OF 'tidelinelaw13.MatchMeets'. -/
def matchMeetsUptoCard : Claim7 := { stood := { row := matchMeetsUptoRow, standIns := [], harness := (true, "75af6b1a67402ee53174add1138896b9866a34e88f0a55261651643709f35bea"), looks := false }, kinds := [], alts := [], laidByText := true, laidKinds := [.data], laidTests := true, laidLooks := .later }
def MatchMeetsUptoCardSaid : Prop := Claim7.holds Tryd.pinned (.plain (OpenSpec.upto matchMeetsSpec)) matchMeetsUptoCard

/-- THE SECOND FORM's CARD OF 'tidelinelaw08.StoreFolds'. -/
def storeFoldsUptoCard : Claim7 := { stood := { row := storeFoldsUptoRow, standIns := [], harness := (true, "75af6b1a67402ee53174add1138896b9866a34e88f0a55261651643709f35bea"), looks := false }, kinds := [], alts := [], laidByText := true, laidKinds := [.data], laidTests := true, laidLooks := .later }
def StoreFoldsUptoCardSaid : Prop := Claim7.holds Tryd.pinned (.plain (OpenSpec.upto storeFoldsSpec)) storeFoldsUptoCard

/-- THE SECOND FORM's CARD OF 'tidelinelaw13.MatchTiles'. -/
def matchTilesUptoCard : Claim7 := { stood := { row := matchTilesUptoRow, standIns := [], harness := (true, "75af6b1a67402ee53174add1138896b9866a34e88f0a55261651643709f35bea"), looks := false }, kinds := [], alts := [], laidByText := true, laidKinds := [.data], laidTests := true, laidLooks := .later }
def MatchTilesUptoCardSaid : Prop := Claim7.holds Tryd.pinned (.plain (OpenSpec.upto matchTilesSpec)) matchTilesUptoCard
end Rows
end Go.Proofs.YtokcgnbjkbhmiaaDoor
