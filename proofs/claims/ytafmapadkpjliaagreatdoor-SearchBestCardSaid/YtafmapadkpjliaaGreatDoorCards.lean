/-
  DERIVED. GIVEN WITH THE SEED: THE CARDS: each row of YtafmapadkpjliaaGreatDoorRows.lean that lists a variable, with what it lists TIED to the program's text (the seventh form; the later family's looks); each row that meets fmt, with fmt's text TOLD by the authors' own Lean function (tested against real Go, not proved from fmt's source: count such statements apart). THE CARD IS WHAT COUNTS. Prove the row's statement (the work); the ties are given (YtafmapadkpjliaaGreatDoorTie.lean); close each card by the builder's one call (the guide's Derived/Test/ToyasCard.lean, 'card_holds'). Laid BY PROGRAM, IN A SANDBOX (cutbox-door.mjs). By AI agents, Wed Nov 11 2026. No macro, syntax, notation, axiom, sorry.
-/
import Derived.Test.YtafmapadkpjliaaGreatDoorRows
import GoSem.ClaimSeven
namespace Go.Proofs.YtafmapadkpjliaaGreatDoor
namespace Rows

/-- THE TIED CARD OF 'riverbanklaw22.SearchScores'. -/
def searchScoresCard : Claim7 := { stood := { row := searchScoresRow, standIns := [], harness := (true, "8330d955b739fc75fb1e7ff1be67218746103a85c046b2089cbe993b63d79ec5"), looks := false }, kinds := [], alts := [], laidByText := true, laidKinds := [.data], laidTests := true, laidLooks := .later }
def SearchScoresCardSaid : Prop := Claim7.holds Tryz.pinned (.plain (OpenSpec.ofChange searchScoresSpec)) searchScoresCard

/-- THE TIED CARD OF 'riverbanklaw22.SearchBest'. -/
def searchBestCard : Claim7 := { stood := { row := searchBestRow, standIns := [], harness := (true, "8330d955b739fc75fb1e7ff1be67218746103a85c046b2089cbe993b63d79ec5"), looks := false }, kinds := [], alts := [], laidByText := true, laidKinds := [.data], laidTests := true, laidLooks := .later }
def SearchBestCardSaid : Prop := Claim7.holds Tryz.pinned (.plain (OpenSpec.ofChange searchBestSpec)) searchBestCard

/-- THE TIED CARD OF 'riverbanklaw22.SearchLimited'. -/
def searchLimitedCard : Claim7 := { stood := { row := searchLimitedRow, standIns := [], harness := (true, "8330d955b739fc75fb1e7ff1be67218746103a85c046b2089cbe993b63d79ec5"), looks := false }, kinds := [], alts := [], laidByText := true, laidKinds := [.data], laidTests := true, laidLooks := .later }
def SearchLimitedCardSaid : Prop := Claim7.holds Tryz.pinned (.plain (OpenSpec.ofChange searchLimitedSpec)) searchLimitedCard

/-- THE TIED CARD OF 'riverbanklaw22.SearchTurn'. -/
def searchTurnCard : Claim7 := { stood := { row := searchTurnRow, standIns := [], harness := (true, "8330d955b739fc75fb1e7ff1be67218746103a85c046b2089cbe993b63d79ec5"), looks := false }, kinds := [], alts := [], laidByText := true, laidKinds := [.data], laidTests := true, laidLooks := .later }
def SearchTurnCardSaid : Prop := Claim7.holds Tryz.pinned (.plain (OpenSpec.ofChange searchTurnSpec)) searchTurnCard

/-- THE SECOND FORM's CARD OF 'riverbanklaw22.SearchScores'. -/
def searchScoresUptoCard : Claim7 := { stood := { row := searchScoresUptoRow, standIns := [], harness := (true, "8330d955b739fc75fb1e7ff1be67218746103a85c046b2089cbe993b63d79ec5"), looks := false }, kinds := [], alts := [], laidByText := true, laidKinds := [.data], laidTests := true, laidLooks := .later }
def SearchScoresUptoCardSaid : Prop := Claim7.holds Tryz.pinned (.plain (OpenSpec.upto searchScoresSpec)) searchScoresUptoCard

/-- THE SECOND FORM's CARD OF 'riverbanklaw22.SearchBest'. -/
def searchBestUptoCard : Claim7 := { stood := { row := searchBestUptoRow, standIns := [], harness := (true, "8330d955b739fc75fb1e7ff1be67218746103a85c046b2089cbe993b63d79ec5"), looks := false }, kinds := [], alts := [], laidByText := true, laidKinds := [.data], laidTests := true, laidLooks := .later }
def SearchBestUptoCardSaid : Prop := Claim7.holds Tryz.pinned (.plain (OpenSpec.upto searchBestSpec)) searchBestUptoCard

/-- THE SECOND FORM's CARD OF 'riverbanklaw22.SearchLimited'. -/
def searchLimitedUptoCard : Claim7 := { stood := { row := searchLimitedUptoRow, standIns := [], harness := (true, "8330d955b739fc75fb1e7ff1be67218746103a85c046b2089cbe993b63d79ec5"), looks := false }, kinds := [], alts := [], laidByText := true, laidKinds := [.data], laidTests := true, laidLooks := .later }
def SearchLimitedUptoCardSaid : Prop := Claim7.holds Tryz.pinned (.plain (OpenSpec.upto searchLimitedSpec)) searchLimitedUptoCard

/-- THE SECOND FORM's CARD OF 'riverbanklaw22.SearchTurn'. -/
def searchTurnUptoCard : Claim7 := { stood := { row := searchTurnUptoRow, standIns := [], harness := (true, "8330d955b739fc75fb1e7ff1be67218746103a85c046b2089cbe993b63d79ec5"), looks := false }, kinds := [], alts := [], laidByText := true, laidKinds := [.data], laidTests := true, laidLooks := .later }
def SearchTurnUptoCardSaid : Prop := Claim7.holds Tryz.pinned (.plain (OpenSpec.upto searchTurnSpec)) searchTurnUptoCard
end Rows
end Go.Proofs.YtafmapadkpjliaaGreatDoor
