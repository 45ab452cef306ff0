/-
  DERIVED. GIVEN WITH THE SEED: THE CARDS: each row of YtllbkppdkldmiaaGreatDoorRows.lean that lists a variable, with what it lists TIED to the program's text (the seventh form; the later family's looks); each row that meets fmt, with fmt's text TOLD by the authors' own Lean function (tested against real Go, not proved from fmt's source: count such statements apart). THE CARD IS WHAT COUNTS. Prove the row's statement (the work); the ties are given (YtllbkppdkldmiaaGreatDoorTie.lean); close each card by the builder's one call (the guide's Derived/Test/ToyasCard.lean, 'card_holds'). Laid BY PROGRAM, IN A SANDBOX (cutbox-door.mjs). By AI agents, Wed Nov 11 2026. No macro, syntax, notation, axiom, sorry.
-/
import Derived.Test.YtllbkppdkldmiaaGreatDoorRows
import GoSem.ClaimSeven
namespace Go.Proofs.YtllbkppdkldmiaaGreatDoor
namespace Rows

/-- THE TIED CARD OF 'riverbanklaw07.CheckAttacks'. -/
def checkAttacksCard : Claim7 := { stood := { row := checkAttacksRow, standIns := [], harness := (true, "0dcf862b27bf107414b64d7eb1bd3eb07a751a2ac1717352eeb824eeab90f824"), looks := false }, kinds := [], alts := [], laidByText := true, laidKinds := [.data], laidTests := true, laidLooks := .later }
def CheckAttacksCardSaid : Prop := Claim7.holds Tryz.pinned (.plain (OpenSpec.ofChange checkAttacksSpec)) checkAttacksCard

/-- THE TIED CARD OF 'riverbanklaw07.CheckTakes'. -/
def checkTakesCard : Claim7 := { stood := { row := checkTakesRow, standIns := [], harness := (true, "0dcf862b27bf107414b64d7eb1bd3eb07a751a2ac1717352eeb824eeab90f824"), looks := false }, kinds := [], alts := [], laidByText := true, laidKinds := [.data], laidTests := true, laidLooks := .later }
def CheckTakesCardSaid : Prop := Claim7.holds Tryz.pinned (.plain (OpenSpec.ofChange checkTakesSpec)) checkTakesCard

/-- THE TIED CARD OF 'riverbanklaw07.CheckTurn'. -/
def checkTurnCard : Claim7 := { stood := { row := checkTurnRow, standIns := [], harness := (true, "0dcf862b27bf107414b64d7eb1bd3eb07a751a2ac1717352eeb824eeab90f824"), looks := false }, kinds := [], alts := [], laidByText := true, laidKinds := [.data], laidTests := true, laidLooks := .later }
def CheckTurnCardSaid : Prop := Claim7.holds Tryz.pinned (.plain (OpenSpec.ofChange checkTurnSpec)) checkTurnCard

/-- THE TIED CARD OF 'riverbanklaw07.CheckBetween'. -/
def checkBetweenCard : Claim7 := { stood := { row := checkBetweenRow, standIns := [], harness := (true, "0dcf862b27bf107414b64d7eb1bd3eb07a751a2ac1717352eeb824eeab90f824"), looks := false }, kinds := [], alts := [], laidByText := true, laidKinds := [.data], laidTests := true, laidLooks := .later }
def CheckBetweenCardSaid : Prop := Claim7.holds Tryz.pinned (.plain (OpenSpec.ofChange checkBetweenSpec)) checkBetweenCard

/-- THE TIED CARD OF 'riverbanklaw07.CheckWhere'. -/
def checkWhereCard : Claim7 := { stood := { row := checkWhereRow, standIns := [], harness := (true, "0dcf862b27bf107414b64d7eb1bd3eb07a751a2ac1717352eeb824eeab90f824"), looks := false }, kinds := [], alts := [], laidByText := true, laidKinds := [.data], laidTests := true, laidLooks := .later }
def CheckWhereCardSaid : Prop := Claim7.holds Tryz.pinned (.plain (OpenSpec.ofChange checkWhereSpec)) checkWhereCard

/-- THE TIED CARD OF 'riverbanklaw07.CheckRight'. -/
def checkRightCard : Claim7 := { stood := { row := checkRightRow, standIns := [], harness := (true, "0dcf862b27bf107414b64d7eb1bd3eb07a751a2ac1717352eeb824eeab90f824"), looks := false }, kinds := [], alts := [], laidByText := true, laidKinds := [.data], laidTests := true, laidLooks := .later }
def CheckRightCardSaid : Prop := Claim7.holds Tryz.pinned (.plain (OpenSpec.ofChange checkRightSpec)) checkRightCard

/-- THE TIED CARD OF 'riverbanklaw08.LegalMoves'. -/
def legalMovesCard : Claim7 := { stood := { row := legalMovesRow, standIns := [], harness := (true, "0dcf862b27bf107414b64d7eb1bd3eb07a751a2ac1717352eeb824eeab90f824"), looks := false }, kinds := [], alts := [], laidByText := true, laidKinds := [.data], laidTests := true, laidLooks := .later }
def LegalMovesCardSaid : Prop := Claim7.holds Tryz.pinned (.plain (OpenSpec.ofChange legalMovesSpec)) legalMovesCard

/-- THE TIED CARD OF 'riverbanklaw08.LegalMakes'. -/
def legalMakesCard : Claim7 := { stood := { row := legalMakesRow, standIns := [], harness := (true, "0dcf862b27bf107414b64d7eb1bd3eb07a751a2ac1717352eeb824eeab90f824"), looks := false }, kinds := [], alts := [], laidByText := true, laidKinds := [.data], laidTests := true, laidLooks := .later }
def LegalMakesCardSaid : Prop := Claim7.holds Tryz.pinned (.plain (OpenSpec.ofChange legalMakesSpec)) legalMakesCard

/-- THE TIED CARD OF 'riverbanklaw08.LegalRight'. -/
def legalRightCard : Claim7 := { stood := { row := legalRightRow, standIns := [], harness := (true, "0dcf862b27bf107414b64d7eb1bd3eb07a751a2ac1717352eeb824eeab90f824"), looks := false }, kinds := [], alts := [], laidByText := true, laidKinds := [.data], laidTests := true, laidLooks := .later }
def LegalRightCardSaid : Prop := Claim7.holds Tryz.pinned (.plain (OpenSpec.ofChange legalRightSpec)) legalRightCard

/-- THE TIED CARD OF 'riverbanklaw08.LegalTurn'. -/
def legalTurnCard : Claim7 := { stood := { row := legalTurnRow, standIns := [], harness := (true, "0dcf862b27bf107414b64d7eb1bd3eb07a751a2ac1717352eeb824eeab90f824"), looks := false }, kinds := [], alts := [], laidByText := true, laidKinds := [.data], laidTests := true, laidLooks := .later }
def LegalTurnCardSaid : Prop := Claim7.holds Tryz.pinned (.plain (OpenSpec.ofChange legalTurnSpec)) legalTurnCard

/-- THE TIED CARD OF 'riverbanklaw08.LegalEnds'. -/
def legalEndsCard : Claim7 := { stood := { row := legalEndsRow, standIns := [], harness := (true, "0dcf862b27bf107414b64d7eb1bd3eb07a751a2ac1717352eeb824eeab90f824"), looks := false }, kinds := [], alts := [], laidByText := true, laidKinds := [.data], laidTests := true, laidLooks := .later }
def LegalEndsCardSaid : Prop := Claim7.holds Tryz.pinned (.plain (OpenSpec.ofChange legalEndsSpec)) legalEndsCard

/-- THE TIED CARD OF 'riverbanklaw08.LegalClock'. -/
def legalClockCard : Claim7 := { stood := { row := legalClockRow, standIns := [], harness := (true, "0dcf862b27bf107414b64d7eb1bd3eb07a751a2ac1717352eeb824eeab90f824"), looks := false }, kinds := [], alts := [], laidByText := true, laidKinds := [.data], laidTests := true, laidLooks := .later }
def LegalClockCardSaid : Prop := Claim7.holds Tryz.pinned (.plain (OpenSpec.ofChange legalClockSpec)) legalClockCard

/-- THE TIED CARD OF 'riverbanklaw08.LegalBlock'. -/
def legalBlockCard : Claim7 := { stood := { row := legalBlockRow, standIns := [], harness := (true, "0dcf862b27bf107414b64d7eb1bd3eb07a751a2ac1717352eeb824eeab90f824"), looks := false }, kinds := [], alts := [], laidByText := true, laidKinds := [.data], laidTests := true, laidLooks := .later }
def LegalBlockCardSaid : Prop := Claim7.holds Tryz.pinned (.plain (OpenSpec.ofChange legalBlockSpec)) legalBlockCard

/-- THE SECOND FORM's CARD OF 'riverbanklaw07.CheckAttacks'. -/
def checkAttacksUptoCard : Claim7 := { stood := { row := checkAttacksUptoRow, standIns := [], harness := (true, "0dcf862b27bf107414b64d7eb1bd3eb07a751a2ac1717352eeb824eeab90f824"), looks := false }, kinds := [], alts := [], laidByText := true, laidKinds := [.data], laidTests := true, laidLooks := .later }
def CheckAttacksUptoCardSaid : Prop := Claim7.holds Tryz.pinned (.plain (OpenSpec.upto checkAttacksSpec)) checkAttacksUptoCard

/-- THE SECOND FORM's CARD OF 'riverbanklaw07.CheckTakes'. -/
def checkTakesUptoCard : Claim7 := { stood := { row := checkTakesUptoRow, standIns := [], harness := (true, "0dcf862b27bf107414b64d7eb1bd3eb07a751a2ac1717352eeb824eeab90f824"), looks := false }, kinds := [], alts := [], laidByText := true, laidKinds := [.data], laidTests := true, laidLooks := .later }
def CheckTakesUptoCardSaid : Prop := Claim7.holds Tryz.pinned (.plain (OpenSpec.upto checkTakesSpec)) checkTakesUptoCard

/-- THE SECOND FORM's CARD OF 'riverbanklaw07.CheckTurn'. -/
def checkTurnUptoCard : Claim7 := { stood := { row := checkTurnUptoRow, standIns := [], harness := (true, "0dcf862b27bf107414b64d7eb1bd3eb07a751a2ac1717352eeb824eeab90f824"), looks := false }, kinds := [], alts := [], laidByText := true, laidKinds := [.data], laidTests := true, laidLooks := .later }
def CheckTurnUptoCardSaid : Prop := Claim7.holds Tryz.pinned (.plain (OpenSpec.upto checkTurnSpec)) checkTurnUptoCard

/-- THE SECOND FORM's CARD OF 'riverbanklaw07.CheckBetween'. -/
def checkBetweenUptoCard : Claim7 := { stood := { row := checkBetweenUptoRow, standIns := [], harness := (true, "0dcf862b27bf107414b64d7eb1bd3eb07a751a2ac1717352eeb824eeab90f824"), looks := false }, kinds := [], alts := [], laidByText := true, laidKinds := [.data], laidTests := true, laidLooks := .later }
def CheckBetweenUptoCardSaid : Prop := Claim7.holds Tryz.pinned (.plain (OpenSpec.upto checkBetweenSpec)) checkBetweenUptoCard

/-- THE SECOND FORM's CARD OF 'riverbanklaw07.CheckWhere'. -/
def checkWhereUptoCard : Claim7 := { stood := { row := checkWhereUptoRow, standIns := [], harness := (true, "0dcf862b27bf107414b64d7eb1bd3eb07a751a2ac1717352eeb824eeab90f824"), looks := false }, kinds := [], alts := [], laidByText := true, laidKinds := [.data], laidTests := true, laidLooks := .later }
def CheckWhereUptoCardSaid : Prop := Claim7.holds Tryz.pinned (.plain (OpenSpec.upto checkWhereSpec)) checkWhereUptoCard

/-- THE SECOND FORM's CARD OF 'riverbanklaw07.CheckRight'. -/
def checkRightUptoCard : Claim7 := { stood := { row := checkRightUptoRow, standIns := [], harness := (true, "0dcf862b27bf107414b64d7eb1bd3eb07a751a2ac1717352eeb824eeab90f824"), looks := false }, kinds := [], alts := [], laidByText := true, laidKinds := [.data], laidTests := true, laidLooks := .later }
def CheckRightUptoCardSaid : Prop := Claim7.holds Tryz.pinned (.plain (OpenSpec.upto checkRightSpec)) checkRightUptoCard

/-- THE SECOND FORM's CARD OF 'riverbanklaw08.LegalMoves'. -/
def legalMovesUptoCard : Claim7 := { stood := { row := legalMovesUptoRow, standIns := [], harness := (true, "0dcf862b27bf107414b64d7eb1bd3eb07a751a2ac1717352eeb824eeab90f824"), looks := false }, kinds := [], alts := [], laidByText := true, laidKinds := [.data], laidTests := true, laidLooks := .later }
def LegalMovesUptoCardSaid : Prop := Claim7.holds Tryz.pinned (.plain (OpenSpec.upto legalMovesSpec)) legalMovesUptoCard

/-- THE SECOND FORM's CARD OF 'riverbanklaw08.LegalMakes'. -/
def legalMakesUptoCard : Claim7 := { stood := { row := legalMakesUptoRow, standIns := [], harness := (true, "0dcf862b27bf107414b64d7eb1bd3eb07a751a2ac1717352eeb824eeab90f824"), looks := false }, kinds := [], alts := [], laidByText := true, laidKinds := [.data], laidTests := true, laidLooks := .later }
def LegalMakesUptoCardSaid : Prop := Claim7.holds Tryz.pinned (.plain (OpenSpec.upto legalMakesSpec)) legalMakesUptoCard

/-- THE SECOND FORM's CARD OF 'riverbanklaw08.LegalRight'. -/
def legalRightUptoCard : Claim7 := { stood := { row := legalRightUptoRow, standIns := [], harness := (true, "0dcf862b27bf107414b64d7eb1bd3eb07a751a2ac1717352eeb824eeab90f824"), looks := false }, kinds := [], alts := [], laidByText := true, laidKinds := [.data], laidTests := true, laidLooks := .later }
def LegalRightUptoCardSaid : Prop := Claim7.holds Tryz.pinned (.plain (OpenSpec.upto legalRightSpec)) legalRightUptoCard

/-- THE SECOND FORM's CARD OF 'riverbanklaw08.LegalTurn'. -/
def legalTurnUptoCard : Claim7 := { stood := { row := legalTurnUptoRow, standIns := [], harness := (true, "0dcf862b27bf107414b64d7eb1bd3eb07a751a2ac1717352eeb824eeab90f824"), looks := false }, kinds := [], alts := [], laidByText := true, laidKinds := [.data], laidTests := true, laidLooks := .later }
def LegalTurnUptoCardSaid : Prop := Claim7.holds Tryz.pinned (.plain (OpenSpec.upto legalTurnSpec)) legalTurnUptoCard

/-- THE SECOND FORM's CARD OF 'riverbanklaw08.LegalEnds'. -/
def legalEndsUptoCard : Claim7 := { stood := { row := legalEndsUptoRow, standIns := [], harness := (true, "0dcf862b27bf107414b64d7eb1bd3eb07a751a2ac1717352eeb824eeab90f824"), looks := false }, kinds := [], alts := [], laidByText := true, laidKinds := [.data], laidTests := true, laidLooks := .later }
def LegalEndsUptoCardSaid : Prop := Claim7.holds Tryz.pinned (.plain (OpenSpec.upto legalEndsSpec)) legalEndsUptoCard

/-- THE SECOND FORM's CARD OF 'riverbanklaw08.LegalClock'. -/
def legalClockUptoCard : Claim7 := { stood := { row := legalClockUptoRow, standIns := [], harness := (true, "0dcf862b27bf107414b64d7eb1bd3eb07a751a2ac1717352eeb824eeab90f824"), looks := false }, kinds := [], alts := [], laidByText := true, laidKinds := [.data], laidTests := true, laidLooks := .later }
def LegalClockUptoCardSaid : Prop := Claim7.holds Tryz.pinned (.plain (OpenSpec.upto legalClockSpec)) legalClockUptoCard

/-- THE SECOND FORM's CARD OF 'riverbanklaw08.LegalBlock'. -/
def legalBlockUptoCard : Claim7 := { stood := { row := legalBlockUptoRow, standIns := [], harness := (true, "0dcf862b27bf107414b64d7eb1bd3eb07a751a2ac1717352eeb824eeab90f824"), looks := false }, kinds := [], alts := [], laidByText := true, laidKinds := [.data], laidTests := true, laidLooks := .later }
def LegalBlockUptoCardSaid : Prop := Claim7.holds Tryz.pinned (.plain (OpenSpec.upto legalBlockSpec)) legalBlockUptoCard
end Rows
end Go.Proofs.YtllbkppdkldmiaaGreatDoor
