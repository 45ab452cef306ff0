/-
  No cell of these rows narrows 'for every input' (looked for: loops, veiled, ifaces, maps, wideKeys, modest, calm, conditions, laid).
  DERIVED. THE GIVEN ROWS OF THIS SEAT. 10 by the template 'for every input the law returns true; each argument reads behind the call as it read before'; 0 by the template 'total and deterministic' (their statements: YtcanbidenhcohaaTotals.lean).
  GIVEN WITH THE SEED: the statements are not yours to turn. If you find one false, say at which input.
  Laid BY PROGRAM, IN A SANDBOX (cutbox-rows.mjs): the forced cells as the released guide's own fill.sh prints them over the translation ffe7fa3581a35c9a… (all of the seat's roots in one cut). By AI agents, Wed Nov 11 2026. No macro, syntax, notation, axiom, sorry.
-/
import Derived.Test.YtcanbidenhcohaaChecked
import GoSem.Claim
import GoSem.ClaimJoined
import GoSem.ClaimMapViews
import Derived.JoinedTies
import Derived.KernelRfl
namespace Go.Proofs.Ytcanbidenhcohaa
/- THE CELL 'sum', in the pinned program and in every row, IS THE sha256 OF THE DUMP (.gsa) THAT YtcanbidenhcohaaProg.lean LOADS. Nothing in Lean hashes anything: it is a label: what it is worth is what the hold of that sum in a sandbox is worth. -/
noncomputable def Try.pinned : Pinned := { name := "ytcanbidenhcohaa", sum := "ffe7fa3581a35c9ada5610b086bc7642b6317ccb1c05212345888bb3baae88f6", checked := Try.checked }
namespace Rows
def none {H : Type} : Left H := { results := [], args := [] }

/-- 'riverbanklaw05.ReachTells': WHATEVER THE INPUT: true; the input reads as it did. -/
def reachTellsSpec : ChangeSpec := { name := "reachTells", fn := fun _ => fun
  | [d1, d2, d3] => { results := [.lit (.bool true)], args := [d1, d2, d3] }
  | _ => none }
def reachTellsRow : OpenClaim := { program := "ytcanbidenhcohaa", sum := "ffe7fa3581a35c9ada5610b086bc7642b6317ccb1c05212345888bb3baae88f6", func := "riverbank/riverbanklaw05.ReachTells", spec := "reachTells", inPlace := ["internal/bytealg.IndexByteString"], unfollowed := true, recurses := true, apart := false }
def ReachTellsSaid : Prop := reachTellsRow.holds Try.pinned (OpenSpec.ofChange reachTellsSpec)

/-- ITS FALSE NEIGHBOUR: 'it returns false'. Refute it at one input. -/
def reachTellsWrong : ChangeSpec := { name := "reachTells", fn := fun _ => fun
  | [d1, d2, d3] => { results := [.lit (.bool false)], args := [d1, d2, d3] }
  | _ => none }
def ReachTellsWrongFalsely : Prop := reachTellsRow.holds Try.pinned (OpenSpec.ofChange reachTellsWrong)

/-- 'riverbanklaw05.ReachTurn': WHATEVER THE INPUT: true; the input reads as it did. -/
def reachTurnSpec : ChangeSpec := { name := "reachTurn", fn := fun _ => fun
  | [d1, d2, d3] => { results := [.lit (.bool true)], args := [d1, d2, d3] }
  | _ => none }
def reachTurnRow : OpenClaim := { program := "ytcanbidenhcohaa", sum := "ffe7fa3581a35c9ada5610b086bc7642b6317ccb1c05212345888bb3baae88f6", func := "riverbank/riverbanklaw05.ReachTurn", spec := "reachTurn", inPlace := ["internal/bytealg.IndexByteString"], unfollowed := true, recurses := true, apart := false }
def ReachTurnSaid : Prop := reachTurnRow.holds Try.pinned (OpenSpec.ofChange reachTurnSpec)

/-- ITS FALSE NEIGHBOUR: 'it returns false'. Refute it at one input. -/
def reachTurnWrong : ChangeSpec := { name := "reachTurn", fn := fun _ => fun
  | [d1, d2, d3] => { results := [.lit (.bool false)], args := [d1, d2, d3] }
  | _ => none }
def ReachTurnWrongFalsely : Prop := reachTurnRow.holds Try.pinned (OpenSpec.ofChange reachTurnWrong)

/-- 'riverbanklaw05.ReachOwn': WHATEVER THE INPUT: true; the input reads as it did. -/
def reachOwnSpec : ChangeSpec := { name := "reachOwn", fn := fun _ => fun
  | [d1, d2] => { results := [.lit (.bool true)], args := [d1, d2] }
  | _ => none }
def reachOwnRow : OpenClaim := { program := "ytcanbidenhcohaa", sum := "ffe7fa3581a35c9ada5610b086bc7642b6317ccb1c05212345888bb3baae88f6", func := "riverbank/riverbanklaw05.ReachOwn", spec := "reachOwn", inPlace := ["internal/bytealg.IndexByteString"], unfollowed := true, recurses := true, apart := false }
def ReachOwnSaid : Prop := reachOwnRow.holds Try.pinned (OpenSpec.ofChange reachOwnSpec)

/-- ITS FALSE NEIGHBOUR: 'it returns false'. Refute it at one input. -/
def reachOwnWrong : ChangeSpec := { name := "reachOwn", fn := fun _ => fun
  | [d1, d2] => { results := [.lit (.bool false)], args := [d1, d2] }
  | _ => none }
def ReachOwnWrongFalsely : Prop := reachOwnRow.holds Try.pinned (OpenSpec.ofChange reachOwnWrong)

/-- 'riverbanklaw05.ReachPawn': WHATEVER THE INPUT: true; the input reads as it did. -/
def reachPawnSpec : ChangeSpec := { name := "reachPawn", fn := fun _ => fun
  | [d1, d2] => { results := [.lit (.bool true)], args := [d1, d2] }
  | _ => none }
def reachPawnRow : OpenClaim := { program := "ytcanbidenhcohaa", sum := "ffe7fa3581a35c9ada5610b086bc7642b6317ccb1c05212345888bb3baae88f6", func := "riverbank/riverbanklaw05.ReachPawn", spec := "reachPawn", inPlace := ["internal/bytealg.IndexByteString"], unfollowed := true, recurses := true, apart := false }
def ReachPawnSaid : Prop := reachPawnRow.holds Try.pinned (OpenSpec.ofChange reachPawnSpec)

/-- ITS FALSE NEIGHBOUR: 'it returns false'. Refute it at one input. -/
def reachPawnWrong : ChangeSpec := { name := "reachPawn", fn := fun _ => fun
  | [d1, d2] => { results := [.lit (.bool false)], args := [d1, d2] }
  | _ => none }
def ReachPawnWrongFalsely : Prop := reachPawnRow.holds Try.pinned (OpenSpec.ofChange reachPawnWrong)

/-- 'riverbanklaw05.ReachBack': WHATEVER THE INPUT: true; the input reads as it did. -/
def reachBackSpec : ChangeSpec := { name := "reachBack", fn := fun _ => fun
  | [d1, d2, d3] => { results := [.lit (.bool true)], args := [d1, d2, d3] }
  | _ => none }
def reachBackRow : OpenClaim := { program := "ytcanbidenhcohaa", sum := "ffe7fa3581a35c9ada5610b086bc7642b6317ccb1c05212345888bb3baae88f6", func := "riverbank/riverbanklaw05.ReachBack", spec := "reachBack", inPlace := ["internal/bytealg.IndexByteString"], unfollowed := true, recurses := true, apart := false }
def ReachBackSaid : Prop := reachBackRow.holds Try.pinned (OpenSpec.ofChange reachBackSpec)

/-- ITS FALSE NEIGHBOUR: 'it returns false'. Refute it at one input. -/
def reachBackWrong : ChangeSpec := { name := "reachBack", fn := fun _ => fun
  | [d1, d2, d3] => { results := [.lit (.bool false)], args := [d1, d2, d3] }
  | _ => none }
def ReachBackWrongFalsely : Prop := reachBackRow.holds Try.pinned (OpenSpec.ofChange reachBackWrong)

/-- 'riverbanklaw05.ReachBlock': WHATEVER THE INPUT: true; the input reads as it did. -/
def reachBlockSpec : ChangeSpec := { name := "reachBlock", fn := fun _ => fun
  | [d1, d2, d3] => { results := [.lit (.bool true)], args := [d1, d2, d3] }
  | _ => none }
def reachBlockRow : OpenClaim := { program := "ytcanbidenhcohaa", sum := "ffe7fa3581a35c9ada5610b086bc7642b6317ccb1c05212345888bb3baae88f6", func := "riverbank/riverbanklaw05.ReachBlock", spec := "reachBlock", inPlace := ["internal/bytealg.IndexByteString"], unfollowed := true, recurses := true, apart := false }
def ReachBlockSaid : Prop := reachBlockRow.holds Try.pinned (OpenSpec.ofChange reachBlockSpec)

/-- ITS FALSE NEIGHBOUR: 'it returns false'. Refute it at one input. -/
def reachBlockWrong : ChangeSpec := { name := "reachBlock", fn := fun _ => fun
  | [d1, d2, d3] => { results := [.lit (.bool false)], args := [d1, d2, d3] }
  | _ => none }
def ReachBlockWrongFalsely : Prop := reachBlockRow.holds Try.pinned (OpenSpec.ofChange reachBlockWrong)

/-- 'riverbanklaw06.PseudoRight': WHATEVER THE INPUT: true; the input reads as it did. -/
def pseudoRightSpec : ChangeSpec := { name := "pseudoRight", fn := fun _ => fun
  | [d] => { results := [.lit (.bool true)], args := [d] }
  | _ => none }
def pseudoRightRow : OpenClaim := { program := "ytcanbidenhcohaa", sum := "ffe7fa3581a35c9ada5610b086bc7642b6317ccb1c05212345888bb3baae88f6", func := "riverbank/riverbanklaw06.PseudoRight", spec := "pseudoRight", inPlace := ["internal/bytealg.IndexByteString"], unfollowed := true, recurses := true, apart := false }
def PseudoRightSaid : Prop := pseudoRightRow.holds Try.pinned (OpenSpec.ofChange pseudoRightSpec)

/-- ITS FALSE NEIGHBOUR: 'it returns false'. Refute it at one input. -/
def pseudoRightWrong : ChangeSpec := { name := "pseudoRight", fn := fun _ => fun
  | [d] => { results := [.lit (.bool false)], args := [d] }
  | _ => none }
def PseudoRightWrongFalsely : Prop := pseudoRightRow.holds Try.pinned (OpenSpec.ofChange pseudoRightWrong)

/-- 'riverbanklaw06.PseudoTurn': WHATEVER THE INPUT: true; the input reads as it did. -/
def pseudoTurnSpec : ChangeSpec := { name := "pseudoTurn", fn := fun _ => fun
  | [d] => { results := [.lit (.bool true)], args := [d] }
  | _ => none }
def pseudoTurnRow : OpenClaim := { program := "ytcanbidenhcohaa", sum := "ffe7fa3581a35c9ada5610b086bc7642b6317ccb1c05212345888bb3baae88f6", func := "riverbank/riverbanklaw06.PseudoTurn", spec := "pseudoTurn", inPlace := ["internal/bytealg.IndexByteString"], unfollowed := true, recurses := true, apart := false }
def PseudoTurnSaid : Prop := pseudoTurnRow.holds Try.pinned (OpenSpec.ofChange pseudoTurnSpec)

/-- ITS FALSE NEIGHBOUR: 'it returns false'. Refute it at one input. -/
def pseudoTurnWrong : ChangeSpec := { name := "pseudoTurn", fn := fun _ => fun
  | [d] => { results := [.lit (.bool false)], args := [d] }
  | _ => none }
def PseudoTurnWrongFalsely : Prop := pseudoTurnRow.holds Try.pinned (OpenSpec.ofChange pseudoTurnWrong)

/-- 'riverbanklaw06.PseudoSide': WHATEVER THE INPUT: true; the input reads as it did. -/
def pseudoSideSpec : ChangeSpec := { name := "pseudoSide", fn := fun _ => fun
  | [d] => { results := [.lit (.bool true)], args := [d] }
  | _ => none }
def pseudoSideRow : OpenClaim := { program := "ytcanbidenhcohaa", sum := "ffe7fa3581a35c9ada5610b086bc7642b6317ccb1c05212345888bb3baae88f6", func := "riverbank/riverbanklaw06.PseudoSide", spec := "pseudoSide", inPlace := ["internal/bytealg.IndexByteString"], unfollowed := true, recurses := true, apart := false }
def PseudoSideSaid : Prop := pseudoSideRow.holds Try.pinned (OpenSpec.ofChange pseudoSideSpec)

/-- ITS FALSE NEIGHBOUR: 'it returns false'. Refute it at one input. -/
def pseudoSideWrong : ChangeSpec := { name := "pseudoSide", fn := fun _ => fun
  | [d] => { results := [.lit (.bool false)], args := [d] }
  | _ => none }
def PseudoSideWrongFalsely : Prop := pseudoSideRow.holds Try.pinned (OpenSpec.ofChange pseudoSideWrong)

/-- 'riverbanklaw06.PseudoCaptures': WHATEVER THE INPUT: true; the input reads as it did. -/
def pseudoCapturesSpec : ChangeSpec := { name := "pseudoCaptures", fn := fun _ => fun
  | [d] => { results := [.lit (.bool true)], args := [d] }
  | _ => none }
def pseudoCapturesRow : OpenClaim := { program := "ytcanbidenhcohaa", sum := "ffe7fa3581a35c9ada5610b086bc7642b6317ccb1c05212345888bb3baae88f6", func := "riverbank/riverbanklaw06.PseudoCaptures", spec := "pseudoCaptures", inPlace := ["internal/bytealg.IndexByteString"], unfollowed := true, recurses := true, apart := false }
def PseudoCapturesSaid : Prop := pseudoCapturesRow.holds Try.pinned (OpenSpec.ofChange pseudoCapturesSpec)

/-- ITS FALSE NEIGHBOUR: 'it returns false'. Refute it at one input. -/
def pseudoCapturesWrong : ChangeSpec := { name := "pseudoCaptures", fn := fun _ => fun
  | [d] => { results := [.lit (.bool false)], args := [d] }
  | _ => none }
def PseudoCapturesWrongFalsely : Prop := pseudoCapturesRow.holds Try.pinned (OpenSpec.ofChange pseudoCapturesWrong)

/- THE SECOND FORM. 'bulk': how many values and letters a reading holds, each counted each time it is reached (what is shared counts as often as it is met; a slice's spare places count too). A statement '..UptoSaid' is the law's where the arguments, and the package variables that the reading takes, are together of bulk at most 1048576: NARROWER than '..Said'. Prove '..Said' where nothing that the law and all that it calls make is longer than what came in: it says more and counts as full. Else prove '..UptoSaid'. A law counts once. -/
mutual
def uptoBulk {H : Type} : DataW H → Nat
  | .lit (.string bytes) => bytes.length + 1
  | .lit _ => 1
  | .nil => 1
  | .ptr d => uptoBulk d + 1
  | .slice elems spare => uptoBulkAll elems + uptoBulkAll spare + 1
  | .agg parts => uptoBulkAll parts + 1
  | .iface _ d => uptoBulk d + 1
  | .map entries => uptoBulkEntries entries + 1
  | .held _ => 1
def uptoBulkAll {H : Type} : List (DataW H) → Nat
  | [] => 0
  | d :: r => uptoBulk d + uptoBulkAll r
def uptoBulkEntries {H : Type} : List (Lit × DataW H) → Nat
  | [] => 0
  | x :: r => uptoBulkEntry x + uptoBulkEntries r
def uptoBulkEntry {H : Type} : Lit × DataW H → Nat
  | (.string bytes, d) => bytes.length + uptoBulk d + 1
  | (_, d) => uptoBulk d + 1
 end
def uptoSmall : (H : Type) → List (DataW H) → Bool := fun _ ds => decide (uptoBulkAll ds ≤ 1048576)
def OpenSpec.upto (s : _root_.Go.ChangeSpec) : _root_.Go.OpenSpec := { _root_.Go.OpenSpec.ofChange s with cond := some uptoSmall }

/-- 'riverbanklaw05.ReachTells', WHERE WHAT IT READS IS OF BULK AT MOST 1048576: true; the input reads as it did. -/
def reachTellsUptoRow : OpenClaim := { program := "ytcanbidenhcohaa", sum := "ffe7fa3581a35c9ada5610b086bc7642b6317ccb1c05212345888bb3baae88f6", func := "riverbank/riverbanklaw05.ReachTells", spec := "reachTells", inPlace := ["internal/bytealg.IndexByteString"], unfollowed := true, recurses := true, apart := false, narrowed := true }
def ReachTellsUptoSaid : Prop := reachTellsUptoRow.holds Try.pinned (OpenSpec.upto reachTellsSpec)

/-- 'riverbanklaw05.ReachTurn', WHERE WHAT IT READS IS OF BULK AT MOST 1048576: true; the input reads as it did. -/
def reachTurnUptoRow : OpenClaim := { program := "ytcanbidenhcohaa", sum := "ffe7fa3581a35c9ada5610b086bc7642b6317ccb1c05212345888bb3baae88f6", func := "riverbank/riverbanklaw05.ReachTurn", spec := "reachTurn", inPlace := ["internal/bytealg.IndexByteString"], unfollowed := true, recurses := true, apart := false, narrowed := true }
def ReachTurnUptoSaid : Prop := reachTurnUptoRow.holds Try.pinned (OpenSpec.upto reachTurnSpec)

/-- 'riverbanklaw05.ReachOwn', WHERE WHAT IT READS IS OF BULK AT MOST 1048576: true; the input reads as it did. -/
def reachOwnUptoRow : OpenClaim := { program := "ytcanbidenhcohaa", sum := "ffe7fa3581a35c9ada5610b086bc7642b6317ccb1c05212345888bb3baae88f6", func := "riverbank/riverbanklaw05.ReachOwn", spec := "reachOwn", inPlace := ["internal/bytealg.IndexByteString"], unfollowed := true, recurses := true, apart := false, narrowed := true }
def ReachOwnUptoSaid : Prop := reachOwnUptoRow.holds Try.pinned (OpenSpec.upto reachOwnSpec)

/-- 'riverbanklaw05.ReachPawn', WHERE WHAT IT READS IS OF BULK AT MOST 1048576: true; the input reads as it did. -/
def reachPawnUptoRow : OpenClaim := { program := "ytcanbidenhcohaa", sum := "ffe7fa3581a35c9ada5610b086bc7642b6317ccb1c05212345888bb3baae88f6", func := "riverbank/riverbanklaw05.ReachPawn", spec := "reachPawn", inPlace := ["internal/bytealg.IndexByteString"], unfollowed := true, recurses := true, apart := false, narrowed := true }
def ReachPawnUptoSaid : Prop := reachPawnUptoRow.holds Try.pinned (OpenSpec.upto reachPawnSpec)

/-- 'riverbanklaw05.ReachBack', WHERE WHAT IT READS IS OF BULK AT MOST 1048576: true; the input reads as it did. -/
def reachBackUptoRow : OpenClaim := { program := "ytcanbidenhcohaa", sum := "ffe7fa3581a35c9ada5610b086bc7642b6317ccb1c05212345888bb3baae88f6", func := "riverbank/riverbanklaw05.ReachBack", spec := "reachBack", inPlace := ["internal/bytealg.IndexByteString"], unfollowed := true, recurses := true, apart := false, narrowed := true }
def ReachBackUptoSaid : Prop := reachBackUptoRow.holds Try.pinned (OpenSpec.upto reachBackSpec)

/-- 'riverbanklaw05.ReachBlock', WHERE WHAT IT READS IS OF BULK AT MOST 1048576: true; the input reads as it did. -/
def reachBlockUptoRow : OpenClaim := { program := "ytcanbidenhcohaa", sum := "ffe7fa3581a35c9ada5610b086bc7642b6317ccb1c05212345888bb3baae88f6", func := "riverbank/riverbanklaw05.ReachBlock", spec := "reachBlock", inPlace := ["internal/bytealg.IndexByteString"], unfollowed := true, recurses := true, apart := false, narrowed := true }
def ReachBlockUptoSaid : Prop := reachBlockUptoRow.holds Try.pinned (OpenSpec.upto reachBlockSpec)

/-- 'riverbanklaw06.PseudoRight', WHERE WHAT IT READS IS OF BULK AT MOST 1048576: true; the input reads as it did. -/
def pseudoRightUptoRow : OpenClaim := { program := "ytcanbidenhcohaa", sum := "ffe7fa3581a35c9ada5610b086bc7642b6317ccb1c05212345888bb3baae88f6", func := "riverbank/riverbanklaw06.PseudoRight", spec := "pseudoRight", inPlace := ["internal/bytealg.IndexByteString"], unfollowed := true, recurses := true, apart := false, narrowed := true }
def PseudoRightUptoSaid : Prop := pseudoRightUptoRow.holds Try.pinned (OpenSpec.upto pseudoRightSpec)

/-- 'riverbanklaw06.PseudoTurn', WHERE WHAT IT READS IS OF BULK AT MOST 1048576: true; the input reads as it did. -/
def pseudoTurnUptoRow : OpenClaim := { program := "ytcanbidenhcohaa", sum := "ffe7fa3581a35c9ada5610b086bc7642b6317ccb1c05212345888bb3baae88f6", func := "riverbank/riverbanklaw06.PseudoTurn", spec := "pseudoTurn", inPlace := ["internal/bytealg.IndexByteString"], unfollowed := true, recurses := true, apart := false, narrowed := true }
def PseudoTurnUptoSaid : Prop := pseudoTurnUptoRow.holds Try.pinned (OpenSpec.upto pseudoTurnSpec)

/-- 'riverbanklaw06.PseudoSide', WHERE WHAT IT READS IS OF BULK AT MOST 1048576: true; the input reads as it did. -/
def pseudoSideUptoRow : OpenClaim := { program := "ytcanbidenhcohaa", sum := "ffe7fa3581a35c9ada5610b086bc7642b6317ccb1c05212345888bb3baae88f6", func := "riverbank/riverbanklaw06.PseudoSide", spec := "pseudoSide", inPlace := ["internal/bytealg.IndexByteString"], unfollowed := true, recurses := true, apart := false, narrowed := true }
def PseudoSideUptoSaid : Prop := pseudoSideUptoRow.holds Try.pinned (OpenSpec.upto pseudoSideSpec)

/-- 'riverbanklaw06.PseudoCaptures', WHERE WHAT IT READS IS OF BULK AT MOST 1048576: true; the input reads as it did. -/
def pseudoCapturesUptoRow : OpenClaim := { program := "ytcanbidenhcohaa", sum := "ffe7fa3581a35c9ada5610b086bc7642b6317ccb1c05212345888bb3baae88f6", func := "riverbank/riverbanklaw06.PseudoCaptures", spec := "pseudoCaptures", inPlace := ["internal/bytealg.IndexByteString"], unfollowed := true, recurses := true, apart := false, narrowed := true }
def PseudoCapturesUptoSaid : Prop := pseudoCapturesUptoRow.holds Try.pinned (OpenSpec.upto pseudoCapturesSpec)

end Rows
end Go.Proofs.Ytcanbidenhcohaa
