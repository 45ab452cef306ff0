/-
  NARROWER THAN 'FOR EVERY INPUT', by the rows' own cells (each row's printed sentence says how): CheckAttacks: laid · CheckTakes: laid · CheckTurn: laid · CheckBetween: laid · CheckWhere: laid · CheckRight: laid · LegalMoves: laid · LegalMakes: laid · LegalRight: laid · LegalTurn: laid · LegalEnds: laid · LegalClock: laid · LegalBlock: laid.
  DERIVED. THE GIVEN ROWS OF THIS SEAT. 13 by the template 'for every input the law returns true; each argument reads behind the call as it read before'; 0 by the template 'total and deterministic' (their statements: YtllbkppdkldmiaaGreatDoorTotals.lean).
  GIVEN WITH THE SEED: the statements are not yours to turn. If you find one false, say at which input.
  Laid BY PROGRAM, IN A SANDBOX (cutbox-rows.mjs): the forced cells as the released guide's own fill.sh prints them over the translation 788dd866a60d0a0b… (all of the seat's roots in one cut). By AI agents, Wed Nov 11 2026. No macro, syntax, notation, axiom, sorry.
-/
import Derived.Test.YtllbkppdkldmiaaGreatDoorChecked
import GoSem.Claim
import GoSem.ClaimJoined
import GoSem.ClaimMapViews
import Derived.JoinedTies
import Derived.KernelRfl
namespace Go.Proofs.YtllbkppdkldmiaaGreatDoor
/- THE CELL 'sum', in the pinned program and in every row, IS THE sha256 OF THE DUMP (.gsa) THAT YtllbkppdkldmiaaGreatDoorProg.lean LOADS. Nothing in Lean hashes anything: it is a label: what it is worth is what the hold of that sum in a sandbox is worth. -/
noncomputable def Tryz.pinned : Pinned := { name := "ytllbkppdkldmiaagreatdoor", sum := "788dd866a60d0a0bcaf2c917ffb733802f58152d4e2fa4465665a339ff527432", checked := Tryz.checked }
namespace Rows
def none {H : Type} : Left H := { results := [], args := [] }

/- WHAT THE LISTED PACKAGE-LEVEL VARIABLES READ AS WHEN THE CALL BEGINS. Each datum BY PROGRAM (the guide's laid-datum.mjs) off the statement by which the dump's own 'gosem.cut.vars' lays the variable. In a bare row this is a premise. The card (YtllbkppdkldmiaaGreatDoorCards.lean) ties it to the program's text. -/
def laid_math_bits_deBruijn64tab {H : Type} : DataW H := .agg [.lit (.int .u8 0), .lit (.int .u8 1), .lit (.int .u8 56), .lit (.int .u8 2), .lit (.int .u8 57), .lit (.int .u8 49), .lit (.int .u8 28), .lit (.int .u8 3), .lit (.int .u8 61), .lit (.int .u8 58), .lit (.int .u8 42), .lit (.int .u8 50), .lit (.int .u8 38), .lit (.int .u8 29), .lit (.int .u8 17), .lit (.int .u8 4), .lit (.int .u8 62), .lit (.int .u8 47), .lit (.int .u8 59), .lit (.int .u8 36), .lit (.int .u8 45), .lit (.int .u8 43), .lit (.int .u8 51), .lit (.int .u8 22), .lit (.int .u8 53), .lit (.int .u8 39), .lit (.int .u8 33), .lit (.int .u8 30), .lit (.int .u8 24), .lit (.int .u8 18), .lit (.int .u8 12), .lit (.int .u8 5), .lit (.int .u8 63), .lit (.int .u8 55), .lit (.int .u8 48), .lit (.int .u8 27), .lit (.int .u8 60), .lit (.int .u8 41), .lit (.int .u8 37), .lit (.int .u8 16), .lit (.int .u8 46), .lit (.int .u8 35), .lit (.int .u8 44), .lit (.int .u8 21), .lit (.int .u8 52), .lit (.int .u8 32), .lit (.int .u8 23), .lit (.int .u8 11), .lit (.int .u8 54), .lit (.int .u8 26), .lit (.int .u8 40), .lit (.int .u8 15), .lit (.int .u8 34), .lit (.int .u8 20), .lit (.int .u8 31), .lit (.int .u8 10), .lit (.int .u8 25), .lit (.int .u8 14), .lit (.int .u8 19), .lit (.int .u8 9), .lit (.int .u8 13), .lit (.int .u8 8), .lit (.int .u8 7), .lit (.int .u8 6)]

/-- 'riverbanklaw07.CheckAttacks': WHATEVER THE INPUT: true; the input reads as it did. -/
def checkAttacksSpec : ChangeSpec := { name := "checkAttacks", fn := fun _ => fun
  | [d1, d2, d3] => { results := [.lit (.bool true)], args := [d1, d2, d3] }
  | _ => none }
def checkAttacksRow : OpenClaim := { program := "ytllbkppdkldmiaagreatdoor", sum := "788dd866a60d0a0bcaf2c917ffb733802f58152d4e2fa4465665a339ff527432", func := "riverbank/riverbanklaw07.CheckAttacks", spec := "checkAttacks", inPlace := ["internal/bytealg.IndexByteString"], unfollowed := true, recurses := true, named := ["math/bits.deBruijn64tab"], apart := false, laid := [("math/bits.deBruijn64tab", laid_math_bits_deBruijn64tab)] }
def CheckAttacksSaid : Prop := checkAttacksRow.holds Tryz.pinned (OpenSpec.ofChange checkAttacksSpec)

/-- ITS FALSE NEIGHBOUR: 'it returns false'. Refute it at one input. -/
def checkAttacksWrong : ChangeSpec := { name := "checkAttacks", fn := fun _ => fun
  | [d1, d2, d3] => { results := [.lit (.bool false)], args := [d1, d2, d3] }
  | _ => none }
def CheckAttacksWrongFalsely : Prop := checkAttacksRow.holds Tryz.pinned (OpenSpec.ofChange checkAttacksWrong)

/-- 'riverbanklaw07.CheckTakes': WHATEVER THE INPUT: true; the input reads as it did. -/
def checkTakesSpec : ChangeSpec := { name := "checkTakes", fn := fun _ => fun
  | [d1, d2] => { results := [.lit (.bool true)], args := [d1, d2] }
  | _ => none }
def checkTakesRow : OpenClaim := { program := "ytllbkppdkldmiaagreatdoor", sum := "788dd866a60d0a0bcaf2c917ffb733802f58152d4e2fa4465665a339ff527432", func := "riverbank/riverbanklaw07.CheckTakes", spec := "checkTakes", inPlace := ["internal/bytealg.IndexByteString"], unfollowed := true, recurses := true, named := ["math/bits.deBruijn64tab"], apart := false, laid := [("math/bits.deBruijn64tab", laid_math_bits_deBruijn64tab)] }
def CheckTakesSaid : Prop := checkTakesRow.holds Tryz.pinned (OpenSpec.ofChange checkTakesSpec)

/-- ITS FALSE NEIGHBOUR: 'it returns false'. Refute it at one input. -/
def checkTakesWrong : ChangeSpec := { name := "checkTakes", fn := fun _ => fun
  | [d1, d2] => { results := [.lit (.bool false)], args := [d1, d2] }
  | _ => none }
def CheckTakesWrongFalsely : Prop := checkTakesRow.holds Tryz.pinned (OpenSpec.ofChange checkTakesWrong)

/-- 'riverbanklaw07.CheckTurn': WHATEVER THE INPUT: true; the input reads as it did. -/
def checkTurnSpec : ChangeSpec := { name := "checkTurn", fn := fun _ => fun
  | [d1, d2] => { results := [.lit (.bool true)], args := [d1, d2] }
  | _ => none }
def checkTurnRow : OpenClaim := { program := "ytllbkppdkldmiaagreatdoor", sum := "788dd866a60d0a0bcaf2c917ffb733802f58152d4e2fa4465665a339ff527432", func := "riverbank/riverbanklaw07.CheckTurn", spec := "checkTurn", inPlace := ["internal/bytealg.IndexByteString"], unfollowed := true, recurses := true, named := ["math/bits.deBruijn64tab"], apart := false, laid := [("math/bits.deBruijn64tab", laid_math_bits_deBruijn64tab)] }
def CheckTurnSaid : Prop := checkTurnRow.holds Tryz.pinned (OpenSpec.ofChange checkTurnSpec)

/-- ITS FALSE NEIGHBOUR: 'it returns false'. Refute it at one input. -/
def checkTurnWrong : ChangeSpec := { name := "checkTurn", fn := fun _ => fun
  | [d1, d2] => { results := [.lit (.bool false)], args := [d1, d2] }
  | _ => none }
def CheckTurnWrongFalsely : Prop := checkTurnRow.holds Tryz.pinned (OpenSpec.ofChange checkTurnWrong)

/-- 'riverbanklaw07.CheckBetween': WHATEVER THE INPUT: true; the input reads as it did. -/
def checkBetweenSpec : ChangeSpec := { name := "checkBetween", fn := fun _ => fun
  | [d1, d2, d3] => { results := [.lit (.bool true)], args := [d1, d2, d3] }
  | _ => none }
def checkBetweenRow : OpenClaim := { program := "ytllbkppdkldmiaagreatdoor", sum := "788dd866a60d0a0bcaf2c917ffb733802f58152d4e2fa4465665a339ff527432", func := "riverbank/riverbanklaw07.CheckBetween", spec := "checkBetween", inPlace := ["internal/bytealg.IndexByteString"], unfollowed := true, recurses := true, named := ["math/bits.deBruijn64tab"], apart := false, laid := [("math/bits.deBruijn64tab", laid_math_bits_deBruijn64tab)] }
def CheckBetweenSaid : Prop := checkBetweenRow.holds Tryz.pinned (OpenSpec.ofChange checkBetweenSpec)

/-- ITS FALSE NEIGHBOUR: 'it returns false'. Refute it at one input. -/
def checkBetweenWrong : ChangeSpec := { name := "checkBetween", fn := fun _ => fun
  | [d1, d2, d3] => { results := [.lit (.bool false)], args := [d1, d2, d3] }
  | _ => none }
def CheckBetweenWrongFalsely : Prop := checkBetweenRow.holds Tryz.pinned (OpenSpec.ofChange checkBetweenWrong)

/-- 'riverbanklaw07.CheckWhere': WHATEVER THE INPUT: true; the input reads as it did. -/
def checkWhereSpec : ChangeSpec := { name := "checkWhere", fn := fun _ => fun
  | [d1, d2, d3] => { results := [.lit (.bool true)], args := [d1, d2, d3] }
  | _ => none }
def checkWhereRow : OpenClaim := { program := "ytllbkppdkldmiaagreatdoor", sum := "788dd866a60d0a0bcaf2c917ffb733802f58152d4e2fa4465665a339ff527432", func := "riverbank/riverbanklaw07.CheckWhere", spec := "checkWhere", inPlace := ["internal/bytealg.IndexByteString"], unfollowed := true, recurses := true, named := ["math/bits.deBruijn64tab"], apart := false, laid := [("math/bits.deBruijn64tab", laid_math_bits_deBruijn64tab)] }
def CheckWhereSaid : Prop := checkWhereRow.holds Tryz.pinned (OpenSpec.ofChange checkWhereSpec)

/-- ITS FALSE NEIGHBOUR: 'it returns false'. Refute it at one input. -/
def checkWhereWrong : ChangeSpec := { name := "checkWhere", fn := fun _ => fun
  | [d1, d2, d3] => { results := [.lit (.bool false)], args := [d1, d2, d3] }
  | _ => none }
def CheckWhereWrongFalsely : Prop := checkWhereRow.holds Tryz.pinned (OpenSpec.ofChange checkWhereWrong)

/-- 'riverbanklaw07.CheckRight': WHATEVER THE INPUT: true; the input reads as it did. -/
def checkRightSpec : ChangeSpec := { name := "checkRight", fn := fun _ => fun
  | [d] => { results := [.lit (.bool true)], args := [d] }
  | _ => none }
def checkRightRow : OpenClaim := { program := "ytllbkppdkldmiaagreatdoor", sum := "788dd866a60d0a0bcaf2c917ffb733802f58152d4e2fa4465665a339ff527432", func := "riverbank/riverbanklaw07.CheckRight", spec := "checkRight", inPlace := ["internal/bytealg.IndexByteString"], unfollowed := true, recurses := true, named := ["math/bits.deBruijn64tab"], apart := false, laid := [("math/bits.deBruijn64tab", laid_math_bits_deBruijn64tab)] }
def CheckRightSaid : Prop := checkRightRow.holds Tryz.pinned (OpenSpec.ofChange checkRightSpec)

/-- ITS FALSE NEIGHBOUR: 'it returns false'. Refute it at one input. -/
def checkRightWrong : ChangeSpec := { name := "checkRight", fn := fun _ => fun
  | [d] => { results := [.lit (.bool false)], args := [d] }
  | _ => none }
def CheckRightWrongFalsely : Prop := checkRightRow.holds Tryz.pinned (OpenSpec.ofChange checkRightWrong)

/-- 'riverbanklaw08.LegalMoves': WHATEVER THE INPUT: true; the input reads as it did. -/
def legalMovesSpec : ChangeSpec := { name := "legalMoves", fn := fun _ => fun
  | [d] => { results := [.lit (.bool true)], args := [d] }
  | _ => none }
def legalMovesRow : OpenClaim := { program := "ytllbkppdkldmiaagreatdoor", sum := "788dd866a60d0a0bcaf2c917ffb733802f58152d4e2fa4465665a339ff527432", func := "riverbank/riverbanklaw08.LegalMoves", spec := "legalMoves", inPlace := ["internal/bytealg.IndexByteString"], unfollowed := true, recurses := true, named := ["math/bits.deBruijn64tab"], apart := false, laid := [("math/bits.deBruijn64tab", laid_math_bits_deBruijn64tab)] }
def LegalMovesSaid : Prop := legalMovesRow.holds Tryz.pinned (OpenSpec.ofChange legalMovesSpec)

/-- ITS FALSE NEIGHBOUR: 'it returns false'. Refute it at one input. -/
def legalMovesWrong : ChangeSpec := { name := "legalMoves", fn := fun _ => fun
  | [d] => { results := [.lit (.bool false)], args := [d] }
  | _ => none }
def LegalMovesWrongFalsely : Prop := legalMovesRow.holds Tryz.pinned (OpenSpec.ofChange legalMovesWrong)

/-- 'riverbanklaw08.LegalMakes': WHATEVER THE INPUT: true; the input reads as it did. -/
def legalMakesSpec : ChangeSpec := { name := "legalMakes", fn := fun _ => fun
  | [d1, d2] => { results := [.lit (.bool true)], args := [d1, d2] }
  | _ => none }
def legalMakesRow : OpenClaim := { program := "ytllbkppdkldmiaagreatdoor", sum := "788dd866a60d0a0bcaf2c917ffb733802f58152d4e2fa4465665a339ff527432", func := "riverbank/riverbanklaw08.LegalMakes", spec := "legalMakes", inPlace := ["internal/bytealg.IndexByteString"], unfollowed := true, recurses := true, named := ["math/bits.deBruijn64tab"], apart := false, laid := [("math/bits.deBruijn64tab", laid_math_bits_deBruijn64tab)] }
def LegalMakesSaid : Prop := legalMakesRow.holds Tryz.pinned (OpenSpec.ofChange legalMakesSpec)

/-- ITS FALSE NEIGHBOUR: 'it returns false'. Refute it at one input. -/
def legalMakesWrong : ChangeSpec := { name := "legalMakes", fn := fun _ => fun
  | [d1, d2] => { results := [.lit (.bool false)], args := [d1, d2] }
  | _ => none }
def LegalMakesWrongFalsely : Prop := legalMakesRow.holds Tryz.pinned (OpenSpec.ofChange legalMakesWrong)

/-- 'riverbanklaw08.LegalRight': WHATEVER THE INPUT: true; the input reads as it did. -/
def legalRightSpec : ChangeSpec := { name := "legalRight", fn := fun _ => fun
  | [d] => { results := [.lit (.bool true)], args := [d] }
  | _ => none }
def legalRightRow : OpenClaim := { program := "ytllbkppdkldmiaagreatdoor", sum := "788dd866a60d0a0bcaf2c917ffb733802f58152d4e2fa4465665a339ff527432", func := "riverbank/riverbanklaw08.LegalRight", spec := "legalRight", inPlace := ["internal/bytealg.IndexByteString"], unfollowed := true, recurses := true, named := ["math/bits.deBruijn64tab"], apart := false, laid := [("math/bits.deBruijn64tab", laid_math_bits_deBruijn64tab)] }
def LegalRightSaid : Prop := legalRightRow.holds Tryz.pinned (OpenSpec.ofChange legalRightSpec)

/-- ITS FALSE NEIGHBOUR: 'it returns false'. Refute it at one input. -/
def legalRightWrong : ChangeSpec := { name := "legalRight", fn := fun _ => fun
  | [d] => { results := [.lit (.bool false)], args := [d] }
  | _ => none }
def LegalRightWrongFalsely : Prop := legalRightRow.holds Tryz.pinned (OpenSpec.ofChange legalRightWrong)

/-- 'riverbanklaw08.LegalTurn': WHATEVER THE INPUT: true; the input reads as it did. -/
def legalTurnSpec : ChangeSpec := { name := "legalTurn", fn := fun _ => fun
  | [d] => { results := [.lit (.bool true)], args := [d] }
  | _ => none }
def legalTurnRow : OpenClaim := { program := "ytllbkppdkldmiaagreatdoor", sum := "788dd866a60d0a0bcaf2c917ffb733802f58152d4e2fa4465665a339ff527432", func := "riverbank/riverbanklaw08.LegalTurn", spec := "legalTurn", inPlace := ["internal/bytealg.IndexByteString"], unfollowed := true, recurses := true, named := ["math/bits.deBruijn64tab"], apart := false, laid := [("math/bits.deBruijn64tab", laid_math_bits_deBruijn64tab)] }
def LegalTurnSaid : Prop := legalTurnRow.holds Tryz.pinned (OpenSpec.ofChange legalTurnSpec)

/-- ITS FALSE NEIGHBOUR: 'it returns false'. Refute it at one input. -/
def legalTurnWrong : ChangeSpec := { name := "legalTurn", fn := fun _ => fun
  | [d] => { results := [.lit (.bool false)], args := [d] }
  | _ => none }
def LegalTurnWrongFalsely : Prop := legalTurnRow.holds Tryz.pinned (OpenSpec.ofChange legalTurnWrong)

/-- 'riverbanklaw08.LegalEnds': WHATEVER THE INPUT: true; the input reads as it did. -/
def legalEndsSpec : ChangeSpec := { name := "legalEnds", fn := fun _ => fun
  | [d] => { results := [.lit (.bool true)], args := [d] }
  | _ => none }
def legalEndsRow : OpenClaim := { program := "ytllbkppdkldmiaagreatdoor", sum := "788dd866a60d0a0bcaf2c917ffb733802f58152d4e2fa4465665a339ff527432", func := "riverbank/riverbanklaw08.LegalEnds", spec := "legalEnds", inPlace := ["internal/bytealg.IndexByteString"], unfollowed := true, recurses := true, named := ["math/bits.deBruijn64tab"], apart := false, laid := [("math/bits.deBruijn64tab", laid_math_bits_deBruijn64tab)] }
def LegalEndsSaid : Prop := legalEndsRow.holds Tryz.pinned (OpenSpec.ofChange legalEndsSpec)

/-- ITS FALSE NEIGHBOUR: 'it returns false'. Refute it at one input. -/
def legalEndsWrong : ChangeSpec := { name := "legalEnds", fn := fun _ => fun
  | [d] => { results := [.lit (.bool false)], args := [d] }
  | _ => none }
def LegalEndsWrongFalsely : Prop := legalEndsRow.holds Tryz.pinned (OpenSpec.ofChange legalEndsWrong)

/-- 'riverbanklaw08.LegalClock': WHATEVER THE INPUT: true; the input reads as it did. -/
def legalClockSpec : ChangeSpec := { name := "legalClock", fn := fun _ => fun
  | [d] => { results := [.lit (.bool true)], args := [d] }
  | _ => none }
def legalClockRow : OpenClaim := { program := "ytllbkppdkldmiaagreatdoor", sum := "788dd866a60d0a0bcaf2c917ffb733802f58152d4e2fa4465665a339ff527432", func := "riverbank/riverbanklaw08.LegalClock", spec := "legalClock", inPlace := ["internal/bytealg.IndexByteString"], unfollowed := true, recurses := true, named := ["math/bits.deBruijn64tab"], apart := false, laid := [("math/bits.deBruijn64tab", laid_math_bits_deBruijn64tab)] }
def LegalClockSaid : Prop := legalClockRow.holds Tryz.pinned (OpenSpec.ofChange legalClockSpec)

/-- ITS FALSE NEIGHBOUR: 'it returns false'. Refute it at one input. -/
def legalClockWrong : ChangeSpec := { name := "legalClock", fn := fun _ => fun
  | [d] => { results := [.lit (.bool false)], args := [d] }
  | _ => none }
def LegalClockWrongFalsely : Prop := legalClockRow.holds Tryz.pinned (OpenSpec.ofChange legalClockWrong)

/-- 'riverbanklaw08.LegalBlock': WHATEVER THE INPUT: true; the input reads as it did. -/
def legalBlockSpec : ChangeSpec := { name := "legalBlock", fn := fun _ => fun
  | [d] => { results := [.lit (.bool true)], args := [d] }
  | _ => none }
def legalBlockRow : OpenClaim := { program := "ytllbkppdkldmiaagreatdoor", sum := "788dd866a60d0a0bcaf2c917ffb733802f58152d4e2fa4465665a339ff527432", func := "riverbank/riverbanklaw08.LegalBlock", spec := "legalBlock", inPlace := ["internal/bytealg.IndexByteString"], unfollowed := true, recurses := true, named := ["math/bits.deBruijn64tab"], apart := false, laid := [("math/bits.deBruijn64tab", laid_math_bits_deBruijn64tab)] }
def LegalBlockSaid : Prop := legalBlockRow.holds Tryz.pinned (OpenSpec.ofChange legalBlockSpec)

/-- ITS FALSE NEIGHBOUR: 'it returns false'. Refute it at one input. -/
def legalBlockWrong : ChangeSpec := { name := "legalBlock", fn := fun _ => fun
  | [d] => { results := [.lit (.bool false)], args := [d] }
  | _ => none }
def LegalBlockWrongFalsely : Prop := legalBlockRow.holds Tryz.pinned (OpenSpec.ofChange legalBlockWrong)

/- THE SECOND FORM. 'bulk': how many values and letters a reading holds, each counted each time it is reached (what is shared counts as often as it is met; a slice's spare places count too). A statement '..UptoSaid' is the law's where the arguments, and the package variables that the reading takes, are together of bulk at most 1048576: NARROWER than '..Said'. Prove '..Said' where nothing that the law and all that it calls make is longer than what came in: it says more and counts as full. Else prove '..UptoSaid'. A law counts once. -/
mutual
def uptoBulk {H : Type} : DataW H → Nat
  | .lit (.string bytes) => bytes.length + 1
  | .lit _ => 1
  | .nil => 1
  | .ptr d => uptoBulk d + 1
  | .slice elems spare => uptoBulkAll elems + uptoBulkAll spare + 1
  | .agg parts => uptoBulkAll parts + 1
  | .iface _ d => uptoBulk d + 1
  | .map entries => uptoBulkEntries entries + 1
  | .held _ => 1
def uptoBulkAll {H : Type} : List (DataW H) → Nat
  | [] => 0
  | d :: r => uptoBulk d + uptoBulkAll r
def uptoBulkEntries {H : Type} : List (Lit × DataW H) → Nat
  | [] => 0
  | x :: r => uptoBulkEntry x + uptoBulkEntries r
def uptoBulkEntry {H : Type} : Lit × DataW H → Nat
  | (.string bytes, d) => bytes.length + uptoBulk d + 1
  | (_, d) => uptoBulk d + 1
 end
def uptoSmall : (H : Type) → List (DataW H) → Bool := fun _ ds => decide (uptoBulkAll ds ≤ 1048576)
def OpenSpec.upto (s : _root_.Go.ChangeSpec) : _root_.Go.OpenSpec := { _root_.Go.OpenSpec.ofChange s with cond := some uptoSmall }

/-- 'riverbanklaw07.CheckAttacks', WHERE WHAT IT READS IS OF BULK AT MOST 1048576: true; the input reads as it did. -/
def checkAttacksUptoRow : OpenClaim := { program := "ytllbkppdkldmiaagreatdoor", sum := "788dd866a60d0a0bcaf2c917ffb733802f58152d4e2fa4465665a339ff527432", func := "riverbank/riverbanklaw07.CheckAttacks", spec := "checkAttacks", inPlace := ["internal/bytealg.IndexByteString"], unfollowed := true, recurses := true, named := ["math/bits.deBruijn64tab"], apart := false, laid := [("math/bits.deBruijn64tab", laid_math_bits_deBruijn64tab)], narrowed := true }
def CheckAttacksUptoSaid : Prop := checkAttacksUptoRow.holds Tryz.pinned (OpenSpec.upto checkAttacksSpec)

/-- 'riverbanklaw07.CheckTakes', WHERE WHAT IT READS IS OF BULK AT MOST 1048576: true; the input reads as it did. -/
def checkTakesUptoRow : OpenClaim := { program := "ytllbkppdkldmiaagreatdoor", sum := "788dd866a60d0a0bcaf2c917ffb733802f58152d4e2fa4465665a339ff527432", func := "riverbank/riverbanklaw07.CheckTakes", spec := "checkTakes", inPlace := ["internal/bytealg.IndexByteString"], unfollowed := true, recurses := true, named := ["math/bits.deBruijn64tab"], apart := false, laid := [("math/bits.deBruijn64tab", laid_math_bits_deBruijn64tab)], narrowed := true }
def CheckTakesUptoSaid : Prop := checkTakesUptoRow.holds Tryz.pinned (OpenSpec.upto checkTakesSpec)

/-- 'riverbanklaw07.CheckTurn', WHERE WHAT IT READS IS OF BULK AT MOST 1048576: true; the input reads as it did. -/
def checkTurnUptoRow : OpenClaim := { program := "ytllbkppdkldmiaagreatdoor", sum := "788dd866a60d0a0bcaf2c917ffb733802f58152d4e2fa4465665a339ff527432", func := "riverbank/riverbanklaw07.CheckTurn", spec := "checkTurn", inPlace := ["internal/bytealg.IndexByteString"], unfollowed := true, recurses := true, named := ["math/bits.deBruijn64tab"], apart := false, laid := [("math/bits.deBruijn64tab", laid_math_bits_deBruijn64tab)], narrowed := true }
def CheckTurnUptoSaid : Prop := checkTurnUptoRow.holds Tryz.pinned (OpenSpec.upto checkTurnSpec)

/-- 'riverbanklaw07.CheckBetween', WHERE WHAT IT READS IS OF BULK AT MOST 1048576: true; the input reads as it did. -/
def checkBetweenUptoRow : OpenClaim := { program := "ytllbkppdkldmiaagreatdoor", sum := "788dd866a60d0a0bcaf2c917ffb733802f58152d4e2fa4465665a339ff527432", func := "riverbank/riverbanklaw07.CheckBetween", spec := "checkBetween", inPlace := ["internal/bytealg.IndexByteString"], unfollowed := true, recurses := true, named := ["math/bits.deBruijn64tab"], apart := false, laid := [("math/bits.deBruijn64tab", laid_math_bits_deBruijn64tab)], narrowed := true }
def CheckBetweenUptoSaid : Prop := checkBetweenUptoRow.holds Tryz.pinned (OpenSpec.upto checkBetweenSpec)

/-- 'riverbanklaw07.CheckWhere', WHERE WHAT IT READS IS OF BULK AT MOST 1048576: true; the input reads as it did. -/
def checkWhereUptoRow : OpenClaim := { program := "ytllbkppdkldmiaagreatdoor", sum := "788dd866a60d0a0bcaf2c917ffb733802f58152d4e2fa4465665a339ff527432", func := "riverbank/riverbanklaw07.CheckWhere", spec := "checkWhere", inPlace := ["internal/bytealg.IndexByteString"], unfollowed := true, recurses := true, named := ["math/bits.deBruijn64tab"], apart := false, laid := [("math/bits.deBruijn64tab", laid_math_bits_deBruijn64tab)], narrowed := true }
def CheckWhereUptoSaid : Prop := checkWhereUptoRow.holds Tryz.pinned (OpenSpec.upto checkWhereSpec)

/-- 'riverbanklaw07.CheckRight', WHERE WHAT IT READS IS OF BULK AT MOST 1048576: true; the input reads as it did. -/
def checkRightUptoRow : OpenClaim := { program := "ytllbkppdkldmiaagreatdoor", sum := "788dd866a60d0a0bcaf2c917ffb733802f58152d4e2fa4465665a339ff527432", func := "riverbank/riverbanklaw07.CheckRight", spec := "checkRight", inPlace := ["internal/bytealg.IndexByteString"], unfollowed := true, recurses := true, named := ["math/bits.deBruijn64tab"], apart := false, laid := [("math/bits.deBruijn64tab", laid_math_bits_deBruijn64tab)], narrowed := true }
def CheckRightUptoSaid : Prop := checkRightUptoRow.holds Tryz.pinned (OpenSpec.upto checkRightSpec)

/-- 'riverbanklaw08.LegalMoves', WHERE WHAT IT READS IS OF BULK AT MOST 1048576: true; the input reads as it did. -/
def legalMovesUptoRow : OpenClaim := { program := "ytllbkppdkldmiaagreatdoor", sum := "788dd866a60d0a0bcaf2c917ffb733802f58152d4e2fa4465665a339ff527432", func := "riverbank/riverbanklaw08.LegalMoves", spec := "legalMoves", inPlace := ["internal/bytealg.IndexByteString"], unfollowed := true, recurses := true, named := ["math/bits.deBruijn64tab"], apart := false, laid := [("math/bits.deBruijn64tab", laid_math_bits_deBruijn64tab)], narrowed := true }
def LegalMovesUptoSaid : Prop := legalMovesUptoRow.holds Tryz.pinned (OpenSpec.upto legalMovesSpec)

/-- 'riverbanklaw08.LegalMakes', WHERE WHAT IT READS IS OF BULK AT MOST 1048576: true; the input reads as it did. -/
def legalMakesUptoRow : OpenClaim := { program := "ytllbkppdkldmiaagreatdoor", sum := "788dd866a60d0a0bcaf2c917ffb733802f58152d4e2fa4465665a339ff527432", func := "riverbank/riverbanklaw08.LegalMakes", spec := "legalMakes", inPlace := ["internal/bytealg.IndexByteString"], unfollowed := true, recurses := true, named := ["math/bits.deBruijn64tab"], apart := false, laid := [("math/bits.deBruijn64tab", laid_math_bits_deBruijn64tab)], narrowed := true }
def LegalMakesUptoSaid : Prop := legalMakesUptoRow.holds Tryz.pinned (OpenSpec.upto legalMakesSpec)

/-- 'riverbanklaw08.LegalRight', WHERE WHAT IT READS IS OF BULK AT MOST 1048576: true; the input reads as it did. -/
def legalRightUptoRow : OpenClaim := { program := "ytllbkppdkldmiaagreatdoor", sum := "788dd866a60d0a0bcaf2c917ffb733802f58152d4e2fa4465665a339ff527432", func := "riverbank/riverbanklaw08.LegalRight", spec := "legalRight", inPlace := ["internal/bytealg.IndexByteString"], unfollowed := true, recurses := true, named := ["math/bits.deBruijn64tab"], apart := false, laid := [("math/bits.deBruijn64tab", laid_math_bits_deBruijn64tab)], narrowed := true }
def LegalRightUptoSaid : Prop := legalRightUptoRow.holds Tryz.pinned (OpenSpec.upto legalRightSpec)

/-- 'riverbanklaw08.LegalTurn', WHERE WHAT IT READS IS OF BULK AT MOST 1048576: true; the input reads as it did. -/
def legalTurnUptoRow : OpenClaim := { program := "ytllbkppdkldmiaagreatdoor", sum := "788dd866a60d0a0bcaf2c917ffb733802f58152d4e2fa4465665a339ff527432", func := "riverbank/riverbanklaw08.LegalTurn", spec := "legalTurn", inPlace := ["internal/bytealg.IndexByteString"], unfollowed := true, recurses := true, named := ["math/bits.deBruijn64tab"], apart := false, laid := [("math/bits.deBruijn64tab", laid_math_bits_deBruijn64tab)], narrowed := true }
def LegalTurnUptoSaid : Prop := legalTurnUptoRow.holds Tryz.pinned (OpenSpec.upto legalTurnSpec)

/-- 'riverbanklaw08.LegalEnds', WHERE WHAT IT READS IS OF BULK AT MOST 1048576: true; the input reads as it did. -/
def legalEndsUptoRow : OpenClaim := { program := "ytllbkppdkldmiaagreatdoor", sum := "788dd866a60d0a0bcaf2c917ffb733802f58152d4e2fa4465665a339ff527432", func := "riverbank/riverbanklaw08.LegalEnds", spec := "legalEnds", inPlace := ["internal/bytealg.IndexByteString"], unfollowed := true, recurses := true, named := ["math/bits.deBruijn64tab"], apart := false, laid := [("math/bits.deBruijn64tab", laid_math_bits_deBruijn64tab)], narrowed := true }
def LegalEndsUptoSaid : Prop := legalEndsUptoRow.holds Tryz.pinned (OpenSpec.upto legalEndsSpec)

/-- 'riverbanklaw08.LegalClock', WHERE WHAT IT READS IS OF BULK AT MOST 1048576: true; the input reads as it did. -/
def legalClockUptoRow : OpenClaim := { program := "ytllbkppdkldmiaagreatdoor", sum := "788dd866a60d0a0bcaf2c917ffb733802f58152d4e2fa4465665a339ff527432", func := "riverbank/riverbanklaw08.LegalClock", spec := "legalClock", inPlace := ["internal/bytealg.IndexByteString"], unfollowed := true, recurses := true, named := ["math/bits.deBruijn64tab"], apart := false, laid := [("math/bits.deBruijn64tab", laid_math_bits_deBruijn64tab)], narrowed := true }
def LegalClockUptoSaid : Prop := legalClockUptoRow.holds Tryz.pinned (OpenSpec.upto legalClockSpec)

/-- 'riverbanklaw08.LegalBlock', WHERE WHAT IT READS IS OF BULK AT MOST 1048576: true; the input reads as it did. -/
def legalBlockUptoRow : OpenClaim := { program := "ytllbkppdkldmiaagreatdoor", sum := "788dd866a60d0a0bcaf2c917ffb733802f58152d4e2fa4465665a339ff527432", func := "riverbank/riverbanklaw08.LegalBlock", spec := "legalBlock", inPlace := ["internal/bytealg.IndexByteString"], unfollowed := true, recurses := true, named := ["math/bits.deBruijn64tab"], apart := false, laid := [("math/bits.deBruijn64tab", laid_math_bits_deBruijn64tab)], narrowed := true }
def LegalBlockUptoSaid : Prop := legalBlockUptoRow.holds Tryz.pinned (OpenSpec.upto legalBlockSpec)

end Rows
end Go.Proofs.YtllbkppdkldmiaaGreatDoor
