/-
  DERIVED. GIVEN WITH THE SEED: THE CARDS: each row of YtgmlojocafepiaaGreatDoorRows.lean that lists a variable, with what it lists TIED to the program's text (the seventh form; the later family's looks); each row that meets fmt, with fmt's text TOLD by the authors' own Lean function (tested against real Go, not proved from fmt's source: count such statements apart). THE CARD IS WHAT COUNTS. Prove the row's statement (the work); the ties are given (YtgmlojocafepiaaGreatDoorTie.lean); close each card by the builder's one call (the guide's Derived/Test/ToyasCard.lean, 'card_holds'). Laid BY PROGRAM, IN A SANDBOX (cutbox-door.mjs). By AI agents, Wed Nov 11 2026. No macro, syntax, notation, axiom, sorry.
-/
import Derived.Test.YtgmlojocafepiaaGreatDoorRows
import GoSem.ClaimSeven
namespace Go.Proofs.YtgmlojocafepiaaGreatDoor
namespace Rows

/-- THE TIED CARD OF 'riverbanklaw08.LegalRight'. -/
def legalRightCard : Claim7 := { stood := { row := legalRightRow, standIns := [], harness := (true, "489ddd3d65dac654676903316c55414f24b7ec92650dd636d99fdfb9f53f5ba8"), looks := false }, kinds := [], alts := [], laidByText := true, laidKinds := [.data], laidTests := true, laidLooks := .later }
def LegalRightCardSaid : Prop := Claim7.holds Tryz.pinned (.plain (OpenSpec.ofChange legalRightSpec)) legalRightCard

/-- THE TIED CARD OF 'riverbanklaw09.GamePlays'. -/
def gamePlaysCard : Claim7 := { stood := { row := gamePlaysRow, standIns := [], harness := (true, "489ddd3d65dac654676903316c55414f24b7ec92650dd636d99fdfb9f53f5ba8"), looks := false }, kinds := [], alts := [], laidByText := true, laidKinds := [.data], laidTests := true, laidLooks := .later }
def GamePlaysCardSaid : Prop := Claim7.holds Tryz.pinned (.plain (OpenSpec.ofChange gamePlaysSpec)) gamePlaysCard

/-- THE TIED CARD OF 'riverbanklaw09.GameFull'. -/
def gameFullCard : Claim7 := { stood := { row := gameFullRow, standIns := [], harness := (true, "489ddd3d65dac654676903316c55414f24b7ec92650dd636d99fdfb9f53f5ba8"), looks := false }, kinds := [], alts := [], laidByText := true, laidKinds := [.data], laidTests := true, laidLooks := .later }
def GameFullCardSaid : Prop := Claim7.holds Tryz.pinned (.plain (OpenSpec.ofChange gameFullSpec)) gameFullCard

/-- THE TIED CARD OF 'riverbanklaw09.GameHalf'. -/
def gameHalfCard : Claim7 := { stood := { row := gameHalfRow, standIns := [], harness := (true, "489ddd3d65dac654676903316c55414f24b7ec92650dd636d99fdfb9f53f5ba8"), looks := false }, kinds := [], alts := [], laidByText := true, laidKinds := [.data], laidTests := true, laidLooks := .later }
def GameHalfCardSaid : Prop := Claim7.holds Tryz.pinned (.plain (OpenSpec.ofChange gameHalfSpec)) gameHalfCard

/-- THE TIED CARD OF 'riverbanklaw09.GameSquares'. -/
def gameSquaresCard : Claim7 := { stood := { row := gameSquaresRow, standIns := [], harness := (true, "489ddd3d65dac654676903316c55414f24b7ec92650dd636d99fdfb9f53f5ba8"), looks := false }, kinds := [], alts := [], laidByText := true, laidKinds := [.data], laidTests := true, laidLooks := .later }
def GameSquaresCardSaid : Prop := Claim7.holds Tryz.pinned (.plain (OpenSpec.ofChange gameSquaresSpec)) gameSquaresCard

/-- THE TIED CARD OF 'riverbanklaw09.GameBack'. -/
def gameBackCard : Claim7 := { stood := { row := gameBackRow, standIns := [], harness := (true, "489ddd3d65dac654676903316c55414f24b7ec92650dd636d99fdfb9f53f5ba8"), looks := false }, kinds := [], alts := [], laidByText := true, laidKinds := [.data], laidTests := true, laidLooks := .later }
def GameBackCardSaid : Prop := Claim7.holds Tryz.pinned (.plain (OpenSpec.ofChange gameBackSpec)) gameBackCard

/-- THE TIED CARD OF 'riverbanklaw09.GameNil'. -/
def gameNilCard : Claim7 := { stood := { row := gameNilRow, standIns := [], harness := (true, "489ddd3d65dac654676903316c55414f24b7ec92650dd636d99fdfb9f53f5ba8"), looks := false }, kinds := [], alts := [], laidByText := true, laidKinds := [.data], laidTests := true, laidLooks := .later }
def GameNilCardSaid : Prop := Claim7.holds Tryz.pinned (.plain (OpenSpec.ofChange gameNilSpec)) gameNilCard

/-- THE TIED CARD OF 'riverbanklaw11.PerftCounts'. -/
def perftCountsCard : Claim7 := { stood := { row := perftCountsRow, standIns := [], harness := (true, "489ddd3d65dac654676903316c55414f24b7ec92650dd636d99fdfb9f53f5ba8"), looks := false }, kinds := [], alts := [], laidByText := true, laidKinds := [.data], laidTests := true, laidLooks := .later }
def PerftCountsCardSaid : Prop := Claim7.holds Tryz.pinned (.plain (OpenSpec.ofChange perftCountsSpec)) perftCountsCard

/-- THE TIED CARD OF 'riverbanklaw11.PerftTurn'. -/
def perftTurnCard : Claim7 := { stood := { row := perftTurnRow, standIns := [], harness := (true, "489ddd3d65dac654676903316c55414f24b7ec92650dd636d99fdfb9f53f5ba8"), looks := false }, kinds := [], alts := [], laidByText := true, laidKinds := [.data], laidTests := true, laidLooks := .later }
def PerftTurnCardSaid : Prop := Claim7.holds Tryz.pinned (.plain (OpenSpec.ofChange perftTurnSpec)) perftTurnCard

/-- THE SECOND FORM's CARD OF 'riverbanklaw08.LegalRight'. -/
def legalRightUptoCard : Claim7 := { stood := { row := legalRightUptoRow, standIns := [], harness := (true, "489ddd3d65dac654676903316c55414f24b7ec92650dd636d99fdfb9f53f5ba8"), looks := false }, kinds := [], alts := [], laidByText := true, laidKinds := [.data], laidTests := true, laidLooks := .later }
def LegalRightUptoCardSaid : Prop := Claim7.holds Tryz.pinned (.plain (OpenSpec.upto legalRightSpec)) legalRightUptoCard

/-- THE SECOND FORM's CARD OF 'riverbanklaw09.GamePlays'. -/
def gamePlaysUptoCard : Claim7 := { stood := { row := gamePlaysUptoRow, standIns := [], harness := (true, "489ddd3d65dac654676903316c55414f24b7ec92650dd636d99fdfb9f53f5ba8"), looks := false }, kinds := [], alts := [], laidByText := true, laidKinds := [.data], laidTests := true, laidLooks := .later }
def GamePlaysUptoCardSaid : Prop := Claim7.holds Tryz.pinned (.plain (OpenSpec.upto gamePlaysSpec)) gamePlaysUptoCard

/-- THE SECOND FORM's CARD OF 'riverbanklaw09.GameFull'. -/
def gameFullUptoCard : Claim7 := { stood := { row := gameFullUptoRow, standIns := [], harness := (true, "489ddd3d65dac654676903316c55414f24b7ec92650dd636d99fdfb9f53f5ba8"), looks := false }, kinds := [], alts := [], laidByText := true, laidKinds := [.data], laidTests := true, laidLooks := .later }
def GameFullUptoCardSaid : Prop := Claim7.holds Tryz.pinned (.plain (OpenSpec.upto gameFullSpec)) gameFullUptoCard

/-- THE SECOND FORM's CARD OF 'riverbanklaw09.GameHalf'. -/
def gameHalfUptoCard : Claim7 := { stood := { row := gameHalfUptoRow, standIns := [], harness := (true, "489ddd3d65dac654676903316c55414f24b7ec92650dd636d99fdfb9f53f5ba8"), looks := false }, kinds := [], alts := [], laidByText := true, laidKinds := [.data], laidTests := true, laidLooks := .later }
def GameHalfUptoCardSaid : Prop := Claim7.holds Tryz.pinned (.plain (OpenSpec.upto gameHalfSpec)) gameHalfUptoCard

/-- THE SECOND FORM's CARD OF 'riverbanklaw09.GameSquares'. -/
def gameSquaresUptoCard : Claim7 := { stood := { row := gameSquaresUptoRow, standIns := [], harness := (true, "489ddd3d65dac654676903316c55414f24b7ec92650dd636d99fdfb9f53f5ba8"), looks := false }, kinds := [], alts := [], laidByText := true, laidKinds := [.data], laidTests := true, laidLooks := .later }
def GameSquaresUptoCardSaid : Prop := Claim7.holds Tryz.pinned (.plain (OpenSpec.upto gameSquaresSpec)) gameSquaresUptoCard

/-- THE SECOND FORM's CARD OF 'riverbanklaw09.GameBack'. -/
def gameBackUptoCard : Claim7 := { stood := { row := gameBackUptoRow, standIns := [], harness := (true, "489ddd3d65dac654676903316c55414f24b7ec92650dd636d99fdfb9f53f5ba8"), looks := false }, kinds := [], alts := [], laidByText := true, laidKinds := [.data], laidTests := true, laidLooks := .later }
def GameBackUptoCardSaid : Prop := Claim7.holds Tryz.pinned (.plain (OpenSpec.upto gameBackSpec)) gameBackUptoCard

/-- THE SECOND FORM's CARD OF 'riverbanklaw09.GameNil'. -/
def gameNilUptoCard : Claim7 := { stood := { row := gameNilUptoRow, standIns := [], harness := (true, "489ddd3d65dac654676903316c55414f24b7ec92650dd636d99fdfb9f53f5ba8"), looks := false }, kinds := [], alts := [], laidByText := true, laidKinds := [.data], laidTests := true, laidLooks := .later }
def GameNilUptoCardSaid : Prop := Claim7.holds Tryz.pinned (.plain (OpenSpec.upto gameNilSpec)) gameNilUptoCard

/-- THE SECOND FORM's CARD OF 'riverbanklaw11.PerftCounts'. -/
def perftCountsUptoCard : Claim7 := { stood := { row := perftCountsUptoRow, standIns := [], harness := (true, "489ddd3d65dac654676903316c55414f24b7ec92650dd636d99fdfb9f53f5ba8"), looks := false }, kinds := [], alts := [], laidByText := true, laidKinds := [.data], laidTests := true, laidLooks := .later }
def PerftCountsUptoCardSaid : Prop := Claim7.holds Tryz.pinned (.plain (OpenSpec.upto perftCountsSpec)) perftCountsUptoCard

/-- THE SECOND FORM's CARD OF 'riverbanklaw11.PerftTurn'. -/
def perftTurnUptoCard : Claim7 := { stood := { row := perftTurnUptoRow, standIns := [], harness := (true, "489ddd3d65dac654676903316c55414f24b7ec92650dd636d99fdfb9f53f5ba8"), looks := false }, kinds := [], alts := [], laidByText := true, laidKinds := [.data], laidTests := true, laidLooks := .later }
def PerftTurnUptoCardSaid : Prop := Claim7.holds Tryz.pinned (.plain (OpenSpec.upto perftTurnSpec)) perftTurnUptoCard
end Rows
end Go.Proofs.YtgmlojocafepiaaGreatDoor
