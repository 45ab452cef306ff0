/-
  DERIVED. GIVEN WITH THE SEED: THE CARDS: each row of YtdkghbbjillboaaGreatDoorRows.lean that lists a variable, with what it lists TIED to the program's text (the seventh form; the later family's looks); each row that meets fmt, with fmt's text TOLD by the authors' own Lean function (tested against real Go, not proved from fmt's source: count such statements apart). THE CARD IS WHAT COUNTS. Prove the row's statement (the work); the ties are given (YtdkghbbjillboaaGreatDoorTie.lean); close each card by the builder's one call (the guide's Derived/Test/ToyasCard.lean, 'card_holds'). Laid BY PROGRAM, IN A SANDBOX (cutbox-door.mjs). By AI agents, Wed Nov 11 2026. No macro, syntax, notation, axiom, sorry.
-/
import Derived.Test.YtdkghbbjillboaaGreatDoorRows
import GoSem.ClaimSeven
namespace Go.Proofs.YtdkghbbjillboaaGreatDoor
namespace Rows

/-- THE TIED CARD OF 'riverbanklaw21.QuietOf'. -/
def quietOfCard : Claim7 := { stood := { row := quietOfRow, standIns := [], harness := (true, "da0c35ca9ffe7c04262bb2b0062326a3d439cc40cc142dd4cf43b9a4419713ac"), looks := false }, kinds := [], alts := [], laidByText := true, laidKinds := [.data], laidTests := true, laidLooks := .later }
def QuietOfCardSaid : Prop := Claim7.holds Tryz.pinned (.plain (OpenSpec.ofChange quietOfSpec)) quietOfCard

/-- THE TIED CARD OF 'riverbanklaw21.QuietTurn'. -/
def quietTurnCard : Claim7 := { stood := { row := quietTurnRow, standIns := [], harness := (true, "da0c35ca9ffe7c04262bb2b0062326a3d439cc40cc142dd4cf43b9a4419713ac"), looks := false }, kinds := [], alts := [], laidByText := true, laidKinds := [.data], laidTests := true, laidLooks := .later }
def QuietTurnCardSaid : Prop := Claim7.holds Tryz.pinned (.plain (OpenSpec.ofChange quietTurnSpec)) quietTurnCard

/-- THE TIED CARD OF 'riverbanklaw21.QuietWindow'. -/
def quietWindowCard : Claim7 := { stood := { row := quietWindowRow, standIns := [], harness := (true, "da0c35ca9ffe7c04262bb2b0062326a3d439cc40cc142dd4cf43b9a4419713ac"), looks := false }, kinds := [], alts := [], laidByText := true, laidKinds := [.data], laidTests := true, laidLooks := .later }
def QuietWindowCardSaid : Prop := Claim7.holds Tryz.pinned (.plain (OpenSpec.ofChange quietWindowSpec)) quietWindowCard

/-- THE SECOND FORM's CARD OF 'riverbanklaw21.QuietOf'. -/
def quietOfUptoCard : Claim7 := { stood := { row := quietOfUptoRow, standIns := [], harness := (true, "da0c35ca9ffe7c04262bb2b0062326a3d439cc40cc142dd4cf43b9a4419713ac"), looks := false }, kinds := [], alts := [], laidByText := true, laidKinds := [.data], laidTests := true, laidLooks := .later }
def QuietOfUptoCardSaid : Prop := Claim7.holds Tryz.pinned (.plain (OpenSpec.upto quietOfSpec)) quietOfUptoCard

/-- THE SECOND FORM's CARD OF 'riverbanklaw21.QuietTurn'. -/
def quietTurnUptoCard : Claim7 := { stood := { row := quietTurnUptoRow, standIns := [], harness := (true, "da0c35ca9ffe7c04262bb2b0062326a3d439cc40cc142dd4cf43b9a4419713ac"), looks := false }, kinds := [], alts := [], laidByText := true, laidKinds := [.data], laidTests := true, laidLooks := .later }
def QuietTurnUptoCardSaid : Prop := Claim7.holds Tryz.pinned (.plain (OpenSpec.upto quietTurnSpec)) quietTurnUptoCard

/-- THE SECOND FORM's CARD OF 'riverbanklaw21.QuietWindow'. -/
def quietWindowUptoCard : Claim7 := { stood := { row := quietWindowUptoRow, standIns := [], harness := (true, "da0c35ca9ffe7c04262bb2b0062326a3d439cc40cc142dd4cf43b9a4419713ac"), looks := false }, kinds := [], alts := [], laidByText := true, laidKinds := [.data], laidTests := true, laidLooks := .later }
def QuietWindowUptoCardSaid : Prop := Claim7.holds Tryz.pinned (.plain (OpenSpec.upto quietWindowSpec)) quietWindowUptoCard
end Rows
end Go.Proofs.YtdkghbbjillboaaGreatDoor
