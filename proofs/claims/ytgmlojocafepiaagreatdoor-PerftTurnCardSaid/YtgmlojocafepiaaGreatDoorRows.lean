/-
  NARROWER THAN 'FOR EVERY INPUT', by the rows' own cells (each row's printed sentence says how): LegalRight: laid · GamePlays: laid · GameFull: laid · GameHalf: laid · GameSquares: laid · GameBack: laid · GameNil: laid · PerftCounts: laid · PerftTurn: laid.
  DERIVED. THE GIVEN ROWS OF THIS SEAT. 9 by the template 'for every input the law returns true; each argument reads behind the call as it read before'; 0 by the template 'total and deterministic' (their statements: YtgmlojocafepiaaGreatDoorTotals.lean).
  GIVEN WITH THE SEED: the statements are not yours to turn. If you find one false, say at which input.
  Laid BY PROGRAM, IN A SANDBOX (cutbox-rows.mjs): the forced cells as the released guide's own fill.sh prints them over the translation a6cea9ccaf061555… (all of the seat's roots in one cut). By AI agents, Wed Nov 11 2026. No macro, syntax, notation, axiom, sorry.
-/
import Derived.Test.YtgmlojocafepiaaGreatDoorChecked
import GoSem.Claim
import GoSem.ClaimJoined
import GoSem.ClaimMapViews
import Derived.JoinedTies
import Derived.KernelRfl
namespace Go.Proofs.YtgmlojocafepiaaGreatDoor
/- THE CELL 'sum', in the pinned program and in every row, IS THE sha256 OF THE DUMP (.gsa) THAT YtgmlojocafepiaaGreatDoorProg.lean LOADS. Nothing in Lean hashes anything: it is a label: what it is worth is what the hold of that sum in a sandbox is worth. -/
noncomputable def Tryz.pinned : Pinned := { name := "ytgmlojocafepiaagreatdoor", sum := "a6cea9ccaf061555829986ed3ed6517154756afe79cc9f4d3027bb5c772dbac2", checked := Tryz.checked }
namespace Rows
def none {H : Type} : Left H := { results := [], args := [] }

/- WHAT THE LISTED PACKAGE-LEVEL VARIABLES READ AS WHEN THE CALL BEGINS. Each datum BY PROGRAM (the guide's laid-datum.mjs) off the statement by which the dump's own 'gosem.cut.vars' lays the variable. In a bare row this is a premise. The card (YtgmlojocafepiaaGreatDoorCards.lean) ties it to the program's text. -/
def laid_math_bits_deBruijn64tab {H : Type} : DataW H := .agg [.lit (.int .u8 0), .lit (.int .u8 1), .lit (.int .u8 56), .lit (.int .u8 2), .lit (.int .u8 57), .lit (.int .u8 49), .lit (.int .u8 28), .lit (.int .u8 3), .lit (.int .u8 61), .lit (.int .u8 58), .lit (.int .u8 42), .lit (.int .u8 50), .lit (.int .u8 38), .lit (.int .u8 29), .lit (.int .u8 17), .lit (.int .u8 4), .lit (.int .u8 62), .lit (.int .u8 47), .lit (.int .u8 59), .lit (.int .u8 36), .lit (.int .u8 45), .lit (.int .u8 43), .lit (.int .u8 51), .lit (.int .u8 22), .lit (.int .u8 53), .lit (.int .u8 39), .lit (.int .u8 33), .lit (.int .u8 30), .lit (.int .u8 24), .lit (.int .u8 18), .lit (.int .u8 12), .lit (.int .u8 5), .lit (.int .u8 63), .lit (.int .u8 55), .lit (.int .u8 48), .lit (.int .u8 27), .lit (.int .u8 60), .lit (.int .u8 41), .lit (.int .u8 37), .lit (.int .u8 16), .lit (.int .u8 46), .lit (.int .u8 35), .lit (.int .u8 44), .lit (.int .u8 21), .lit (.int .u8 52), .lit (.int .u8 32), .lit (.int .u8 23), .lit (.int .u8 11), .lit (.int .u8 54), .lit (.int .u8 26), .lit (.int .u8 40), .lit (.int .u8 15), .lit (.int .u8 34), .lit (.int .u8 20), .lit (.int .u8 31), .lit (.int .u8 10), .lit (.int .u8 25), .lit (.int .u8 14), .lit (.int .u8 19), .lit (.int .u8 9), .lit (.int .u8 13), .lit (.int .u8 8), .lit (.int .u8 7), .lit (.int .u8 6)]

/-- 'riverbanklaw08.LegalRight': WHATEVER THE INPUT: true; the input reads as it did. -/
def legalRightSpec : ChangeSpec := { name := "legalRight", fn := fun _ => fun
  | [d] => { results := [.lit (.bool true)], args := [d] }
  | _ => none }
def legalRightRow : OpenClaim := { program := "ytgmlojocafepiaagreatdoor", sum := "a6cea9ccaf061555829986ed3ed6517154756afe79cc9f4d3027bb5c772dbac2", func := "riverbank/riverbanklaw08.LegalRight", spec := "legalRight", inPlace := ["internal/bytealg.IndexByteString"], unfollowed := true, recurses := true, named := ["math/bits.deBruijn64tab"], apart := false, laid := [("math/bits.deBruijn64tab", laid_math_bits_deBruijn64tab)] }
def LegalRightSaid : Prop := legalRightRow.holds Tryz.pinned (OpenSpec.ofChange legalRightSpec)

/-- ITS FALSE NEIGHBOUR: 'it returns false'. Refute it at one input. -/
def legalRightWrong : ChangeSpec := { name := "legalRight", fn := fun _ => fun
  | [d] => { results := [.lit (.bool false)], args := [d] }
  | _ => none }
def LegalRightWrongFalsely : Prop := legalRightRow.holds Tryz.pinned (OpenSpec.ofChange legalRightWrong)

/-- 'riverbanklaw09.GamePlays': WHATEVER THE INPUT: true; the input reads as it did. -/
def gamePlaysSpec : ChangeSpec := { name := "gamePlays", fn := fun _ => fun
  | [d1, d2] => { results := [.lit (.bool true)], args := [d1, d2] }
  | _ => none }
def gamePlaysRow : OpenClaim := { program := "ytgmlojocafepiaagreatdoor", sum := "a6cea9ccaf061555829986ed3ed6517154756afe79cc9f4d3027bb5c772dbac2", func := "riverbank/riverbanklaw09.GamePlays", spec := "gamePlays", inPlace := ["internal/bytealg.IndexByteString"], unfollowed := true, recurses := true, named := ["math/bits.deBruijn64tab"], apart := false, laid := [("math/bits.deBruijn64tab", laid_math_bits_deBruijn64tab)] }
def GamePlaysSaid : Prop := gamePlaysRow.holds Tryz.pinned (OpenSpec.ofChange gamePlaysSpec)

/-- ITS FALSE NEIGHBOUR: 'it returns false'. Refute it at one input. -/
def gamePlaysWrong : ChangeSpec := { name := "gamePlays", fn := fun _ => fun
  | [d1, d2] => { results := [.lit (.bool false)], args := [d1, d2] }
  | _ => none }
def GamePlaysWrongFalsely : Prop := gamePlaysRow.holds Tryz.pinned (OpenSpec.ofChange gamePlaysWrong)

/-- 'riverbanklaw09.GameFull': WHATEVER THE INPUT: true; the input reads as it did. -/
def gameFullSpec : ChangeSpec := { name := "gameFull", fn := fun _ => fun
  | [d] => { results := [.lit (.bool true)], args := [d] }
  | _ => none }
def gameFullRow : OpenClaim := { program := "ytgmlojocafepiaagreatdoor", sum := "a6cea9ccaf061555829986ed3ed6517154756afe79cc9f4d3027bb5c772dbac2", func := "riverbank/riverbanklaw09.GameFull", spec := "gameFull", inPlace := ["internal/bytealg.IndexByteString"], unfollowed := true, recurses := true, named := ["math/bits.deBruijn64tab"], apart := false, laid := [("math/bits.deBruijn64tab", laid_math_bits_deBruijn64tab)] }
def GameFullSaid : Prop := gameFullRow.holds Tryz.pinned (OpenSpec.ofChange gameFullSpec)

/-- ITS FALSE NEIGHBOUR: 'it returns false'. Refute it at one input. -/
def gameFullWrong : ChangeSpec := { name := "gameFull", fn := fun _ => fun
  | [d] => { results := [.lit (.bool false)], args := [d] }
  | _ => none }
def GameFullWrongFalsely : Prop := gameFullRow.holds Tryz.pinned (OpenSpec.ofChange gameFullWrong)

/-- 'riverbanklaw09.GameHalf': WHATEVER THE INPUT: true; the input reads as it did. -/
def gameHalfSpec : ChangeSpec := { name := "gameHalf", fn := fun _ => fun
  | [d1, d2, d3] => { results := [.lit (.bool true)], args := [d1, d2, d3] }
  | _ => none }
def gameHalfRow : OpenClaim := { program := "ytgmlojocafepiaagreatdoor", sum := "a6cea9ccaf061555829986ed3ed6517154756afe79cc9f4d3027bb5c772dbac2", func := "riverbank/riverbanklaw09.GameHalf", spec := "gameHalf", inPlace := ["internal/bytealg.IndexByteString"], unfollowed := true, recurses := true, named := ["math/bits.deBruijn64tab"], apart := false, laid := [("math/bits.deBruijn64tab", laid_math_bits_deBruijn64tab)] }
def GameHalfSaid : Prop := gameHalfRow.holds Tryz.pinned (OpenSpec.ofChange gameHalfSpec)

/-- ITS FALSE NEIGHBOUR: 'it returns false'. Refute it at one input. -/
def gameHalfWrong : ChangeSpec := { name := "gameHalf", fn := fun _ => fun
  | [d1, d2, d3] => { results := [.lit (.bool false)], args := [d1, d2, d3] }
  | _ => none }
def GameHalfWrongFalsely : Prop := gameHalfRow.holds Tryz.pinned (OpenSpec.ofChange gameHalfWrong)

/-- 'riverbanklaw09.GameSquares': WHATEVER THE INPUT: true; the input reads as it did. -/
def gameSquaresSpec : ChangeSpec := { name := "gameSquares", fn := fun _ => fun
  | [d1, d2] => { results := [.lit (.bool true)], args := [d1, d2] }
  | _ => none }
def gameSquaresRow : OpenClaim := { program := "ytgmlojocafepiaagreatdoor", sum := "a6cea9ccaf061555829986ed3ed6517154756afe79cc9f4d3027bb5c772dbac2", func := "riverbank/riverbanklaw09.GameSquares", spec := "gameSquares", inPlace := ["internal/bytealg.IndexByteString"], unfollowed := true, recurses := true, named := ["math/bits.deBruijn64tab"], apart := false, laid := [("math/bits.deBruijn64tab", laid_math_bits_deBruijn64tab)] }
def GameSquaresSaid : Prop := gameSquaresRow.holds Tryz.pinned (OpenSpec.ofChange gameSquaresSpec)

/-- ITS FALSE NEIGHBOUR: 'it returns false'. Refute it at one input. -/
def gameSquaresWrong : ChangeSpec := { name := "gameSquares", fn := fun _ => fun
  | [d1, d2] => { results := [.lit (.bool false)], args := [d1, d2] }
  | _ => none }
def GameSquaresWrongFalsely : Prop := gameSquaresRow.holds Tryz.pinned (OpenSpec.ofChange gameSquaresWrong)

/-- 'riverbanklaw09.GameBack': WHATEVER THE INPUT: true; the input reads as it did. -/
def gameBackSpec : ChangeSpec := { name := "gameBack", fn := fun _ => fun
  | [d1, d2] => { results := [.lit (.bool true)], args := [d1, d2] }
  | _ => none }
def gameBackRow : OpenClaim := { program := "ytgmlojocafepiaagreatdoor", sum := "a6cea9ccaf061555829986ed3ed6517154756afe79cc9f4d3027bb5c772dbac2", func := "riverbank/riverbanklaw09.GameBack", spec := "gameBack", inPlace := ["internal/bytealg.IndexByteString"], unfollowed := true, recurses := true, named := ["math/bits.deBruijn64tab"], apart := false, laid := [("math/bits.deBruijn64tab", laid_math_bits_deBruijn64tab)] }
def GameBackSaid : Prop := gameBackRow.holds Tryz.pinned (OpenSpec.ofChange gameBackSpec)

/-- ITS FALSE NEIGHBOUR: 'it returns false'. Refute it at one input. -/
def gameBackWrong : ChangeSpec := { name := "gameBack", fn := fun _ => fun
  | [d1, d2] => { results := [.lit (.bool false)], args := [d1, d2] }
  | _ => none }
def GameBackWrongFalsely : Prop := gameBackRow.holds Tryz.pinned (OpenSpec.ofChange gameBackWrong)

/-- 'riverbanklaw09.GameNil': WHATEVER THE INPUT: true; the input reads as it did. -/
def gameNilSpec : ChangeSpec := { name := "gameNil", fn := fun _ => fun
  | [d] => { results := [.lit (.bool true)], args := [d] }
  | _ => none }
def gameNilRow : OpenClaim := { program := "ytgmlojocafepiaagreatdoor", sum := "a6cea9ccaf061555829986ed3ed6517154756afe79cc9f4d3027bb5c772dbac2", func := "riverbank/riverbanklaw09.GameNil", spec := "gameNil", inPlace := ["internal/bytealg.IndexByteString"], unfollowed := true, recurses := true, named := ["math/bits.deBruijn64tab"], apart := false, laid := [("math/bits.deBruijn64tab", laid_math_bits_deBruijn64tab)] }
def GameNilSaid : Prop := gameNilRow.holds Tryz.pinned (OpenSpec.ofChange gameNilSpec)

/-- ITS FALSE NEIGHBOUR: 'it returns false'. Refute it at one input. -/
def gameNilWrong : ChangeSpec := { name := "gameNil", fn := fun _ => fun
  | [d] => { results := [.lit (.bool false)], args := [d] }
  | _ => none }
def GameNilWrongFalsely : Prop := gameNilRow.holds Tryz.pinned (OpenSpec.ofChange gameNilWrong)

/-- 'riverbanklaw11.PerftCounts': WHATEVER THE INPUT: true; the input reads as it did. -/
def perftCountsSpec : ChangeSpec := { name := "perftCounts", fn := fun _ => fun
  | [d1, d2] => { results := [.lit (.bool true)], args := [d1, d2] }
  | _ => none }
def perftCountsRow : OpenClaim := { program := "ytgmlojocafepiaagreatdoor", sum := "a6cea9ccaf061555829986ed3ed6517154756afe79cc9f4d3027bb5c772dbac2", func := "riverbank/riverbanklaw11.PerftCounts", spec := "perftCounts", inPlace := ["internal/bytealg.IndexByteString"], unfollowed := true, recurses := true, named := ["math/bits.deBruijn64tab"], apart := false, laid := [("math/bits.deBruijn64tab", laid_math_bits_deBruijn64tab)] }
def PerftCountsSaid : Prop := perftCountsRow.holds Tryz.pinned (OpenSpec.ofChange perftCountsSpec)

/-- ITS FALSE NEIGHBOUR: 'it returns false'. Refute it at one input. -/
def perftCountsWrong : ChangeSpec := { name := "perftCounts", fn := fun _ => fun
  | [d1, d2] => { results := [.lit (.bool false)], args := [d1, d2] }
  | _ => none }
def PerftCountsWrongFalsely : Prop := perftCountsRow.holds Tryz.pinned (OpenSpec.ofChange perftCountsWrong)

/-- 'riverbanklaw11.PerftTurn': WHATEVER THE INPUT: true; the input reads as it did. -/
def perftTurnSpec : ChangeSpec := { name := "perftTurn", fn := fun _ => fun
  | [d1, d2] => { results := [.lit (.bool true)], args := [d1, d2] }
  | _ => none }
def perftTurnRow : OpenClaim := { program := "ytgmlojocafepiaagreatdoor", sum := "a6cea9ccaf061555829986ed3ed6517154756afe79cc9f4d3027bb5c772dbac2", func := "riverbank/riverbanklaw11.PerftTurn", spec := "perftTurn", inPlace := ["internal/bytealg.IndexByteString"], unfollowed := true, recurses := true, named := ["math/bits.deBruijn64tab"], apart := false, laid := [("math/bits.deBruijn64tab", laid_math_bits_deBruijn64tab)] }
def PerftTurnSaid : Prop := perftTurnRow.holds Tryz.pinned (OpenSpec.ofChange perftTurnSpec)

/-- ITS FALSE NEIGHBOUR: 'it returns false'. Refute it at one input. -/
def perftTurnWrong : ChangeSpec := { name := "perftTurn", fn := fun _ => fun
  | [d1, d2] => { results := [.lit (.bool false)], args := [d1, d2] }
  | _ => none }
def PerftTurnWrongFalsely : Prop := perftTurnRow.holds Tryz.pinned (OpenSpec.ofChange perftTurnWrong)

/- THE SECOND FORM. 'bulk': how many values and letters a reading holds, each counted each time it is reached (what is shared counts as often as it is met; a slice's spare places count too). A statement '..UptoSaid' is the law's where the arguments, and the package variables that the reading takes, are together of bulk at most 1048576: NARROWER than '..Said'. Prove '..Said' where nothing that the law and all that it calls make is longer than what came in: it says more and counts as full. Else prove '..UptoSaid'. A law counts once. -/
mutual
def uptoBulk {H : Type} : DataW H → Nat
  | .lit (.string bytes) => bytes.length + 1
  | .lit _ => 1
  | .nil => 1
  | .ptr d => uptoBulk d + 1
  | .slice elems spare => uptoBulkAll elems + uptoBulkAll spare + 1
  | .agg parts => uptoBulkAll parts + 1
  | .iface _ d => uptoBulk d + 1
  | .map entries => uptoBulkEntries entries + 1
  | .held _ => 1
def uptoBulkAll {H : Type} : List (DataW H) → Nat
  | [] => 0
  | d :: r => uptoBulk d + uptoBulkAll r
def uptoBulkEntries {H : Type} : List (Lit × DataW H) → Nat
  | [] => 0
  | x :: r => uptoBulkEntry x + uptoBulkEntries r
def uptoBulkEntry {H : Type} : Lit × DataW H → Nat
  | (.string bytes, d) => bytes.length + uptoBulk d + 1
  | (_, d) => uptoBulk d + 1
 end
def uptoSmall : (H : Type) → List (DataW H) → Bool := fun _ ds => decide (uptoBulkAll ds ≤ 1048576)
def OpenSpec.upto (s : _root_.Go.ChangeSpec) : _root_.Go.OpenSpec := { _root_.Go.OpenSpec.ofChange s with cond := some uptoSmall }

/-- 'riverbanklaw08.LegalRight', WHERE WHAT IT READS IS OF BULK AT MOST 1048576: true; the input reads as it did. -/
def legalRightUptoRow : OpenClaim := { program := "ytgmlojocafepiaagreatdoor", sum := "a6cea9ccaf061555829986ed3ed6517154756afe79cc9f4d3027bb5c772dbac2", func := "riverbank/riverbanklaw08.LegalRight", spec := "legalRight", inPlace := ["internal/bytealg.IndexByteString"], unfollowed := true, recurses := true, named := ["math/bits.deBruijn64tab"], apart := false, laid := [("math/bits.deBruijn64tab", laid_math_bits_deBruijn64tab)], narrowed := true }
def LegalRightUptoSaid : Prop := legalRightUptoRow.holds Tryz.pinned (OpenSpec.upto legalRightSpec)

/-- 'riverbanklaw09.GamePlays', WHERE WHAT IT READS IS OF BULK AT MOST 1048576: true; the input reads as it did. -/
def gamePlaysUptoRow : OpenClaim := { program := "ytgmlojocafepiaagreatdoor", sum := "a6cea9ccaf061555829986ed3ed6517154756afe79cc9f4d3027bb5c772dbac2", func := "riverbank/riverbanklaw09.GamePlays", spec := "gamePlays", inPlace := ["internal/bytealg.IndexByteString"], unfollowed := true, recurses := true, named := ["math/bits.deBruijn64tab"], apart := false, laid := [("math/bits.deBruijn64tab", laid_math_bits_deBruijn64tab)], narrowed := true }
def GamePlaysUptoSaid : Prop := gamePlaysUptoRow.holds Tryz.pinned (OpenSpec.upto gamePlaysSpec)

/-- 'riverbanklaw09.GameFull', WHERE WHAT IT READS IS OF BULK AT MOST 1048576: true; the input reads as it did. -/
def gameFullUptoRow : OpenClaim := { program := "ytgmlojocafepiaagreatdoor", sum := "a6cea9ccaf061555829986ed3ed6517154756afe79cc9f4d3027bb5c772dbac2", func := "riverbank/riverbanklaw09.GameFull", spec := "gameFull", inPlace := ["internal/bytealg.IndexByteString"], unfollowed := true, recurses := true, named := ["math/bits.deBruijn64tab"], apart := false, laid := [("math/bits.deBruijn64tab", laid_math_bits_deBruijn64tab)], narrowed := true }
def GameFullUptoSaid : Prop := gameFullUptoRow.holds Tryz.pinned (OpenSpec.upto gameFullSpec)

/-- 'riverbanklaw09.GameHalf', WHERE WHAT IT READS IS OF BULK AT MOST 1048576: true; the input reads as it did. -/
def gameHalfUptoRow : OpenClaim := { program := "ytgmlojocafepiaagreatdoor", sum := "a6cea9ccaf061555829986ed3ed6517154756afe79cc9f4d3027bb5c772dbac2", func := "riverbank/riverbanklaw09.GameHalf", spec := "gameHalf", inPlace := ["internal/bytealg.IndexByteString"], unfollowed := true, recurses := true, named := ["math/bits.deBruijn64tab"], apart := false, laid := [("math/bits.deBruijn64tab", laid_math_bits_deBruijn64tab)], narrowed := true }
def GameHalfUptoSaid : Prop := gameHalfUptoRow.holds Tryz.pinned (OpenSpec.upto gameHalfSpec)

/-- 'riverbanklaw09.GameSquares', WHERE WHAT IT READS IS OF BULK AT MOST 1048576: true; the input reads as it did. -/
def gameSquaresUptoRow : OpenClaim := { program := "ytgmlojocafepiaagreatdoor", sum := "a6cea9ccaf061555829986ed3ed6517154756afe79cc9f4d3027bb5c772dbac2", func := "riverbank/riverbanklaw09.GameSquares", spec := "gameSquares", inPlace := ["internal/bytealg.IndexByteString"], unfollowed := true, recurses := true, named := ["math/bits.deBruijn64tab"], apart := false, laid := [("math/bits.deBruijn64tab", laid_math_bits_deBruijn64tab)], narrowed := true }
def GameSquaresUptoSaid : Prop := gameSquaresUptoRow.holds Tryz.pinned (OpenSpec.upto gameSquaresSpec)

/-- 'riverbanklaw09.GameBack', WHERE WHAT IT READS IS OF BULK AT MOST 1048576: true; the input reads as it did. -/
def gameBackUptoRow : OpenClaim := { program := "ytgmlojocafepiaagreatdoor", sum := "a6cea9ccaf061555829986ed3ed6517154756afe79cc9f4d3027bb5c772dbac2", func := "riverbank/riverbanklaw09.GameBack", spec := "gameBack", inPlace := ["internal/bytealg.IndexByteString"], unfollowed := true, recurses := true, named := ["math/bits.deBruijn64tab"], apart := false, laid := [("math/bits.deBruijn64tab", laid_math_bits_deBruijn64tab)], narrowed := true }
def GameBackUptoSaid : Prop := gameBackUptoRow.holds Tryz.pinned (OpenSpec.upto gameBackSpec)

/-- 'riverbanklaw09.GameNil', WHERE WHAT IT READS IS OF BULK AT MOST 1048576: true; the input reads as it did. -/
def gameNilUptoRow : OpenClaim := { program := "ytgmlojocafepiaagreatdoor", sum := "a6cea9ccaf061555829986ed3ed6517154756afe79cc9f4d3027bb5c772dbac2", func := "riverbank/riverbanklaw09.GameNil", spec := "gameNil", inPlace := ["internal/bytealg.IndexByteString"], unfollowed := true, recurses := true, named := ["math/bits.deBruijn64tab"], apart := false, laid := [("math/bits.deBruijn64tab", laid_math_bits_deBruijn64tab)], narrowed := true }
def GameNilUptoSaid : Prop := gameNilUptoRow.holds Tryz.pinned (OpenSpec.upto gameNilSpec)

/-- 'riverbanklaw11.PerftCounts', WHERE WHAT IT READS IS OF BULK AT MOST 1048576: true; the input reads as it did. -/
def perftCountsUptoRow : OpenClaim := { program := "ytgmlojocafepiaagreatdoor", sum := "a6cea9ccaf061555829986ed3ed6517154756afe79cc9f4d3027bb5c772dbac2", func := "riverbank/riverbanklaw11.PerftCounts", spec := "perftCounts", inPlace := ["internal/bytealg.IndexByteString"], unfollowed := true, recurses := true, named := ["math/bits.deBruijn64tab"], apart := false, laid := [("math/bits.deBruijn64tab", laid_math_bits_deBruijn64tab)], narrowed := true }
def PerftCountsUptoSaid : Prop := perftCountsUptoRow.holds Tryz.pinned (OpenSpec.upto perftCountsSpec)

/-- 'riverbanklaw11.PerftTurn', WHERE WHAT IT READS IS OF BULK AT MOST 1048576: true; the input reads as it did. -/
def perftTurnUptoRow : OpenClaim := { program := "ytgmlojocafepiaagreatdoor", sum := "a6cea9ccaf061555829986ed3ed6517154756afe79cc9f4d3027bb5c772dbac2", func := "riverbank/riverbanklaw11.PerftTurn", spec := "perftTurn", inPlace := ["internal/bytealg.IndexByteString"], unfollowed := true, recurses := true, named := ["math/bits.deBruijn64tab"], apart := false, laid := [("math/bits.deBruijn64tab", laid_math_bits_deBruijn64tab)], narrowed := true }
def PerftTurnUptoSaid : Prop := perftTurnUptoRow.holds Tryz.pinned (OpenSpec.upto perftTurnSpec)

end Rows
end Go.Proofs.YtgmlojocafepiaaGreatDoor
