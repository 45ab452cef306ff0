/- PerftTurn: seen from the other side there are as many lines; at depth 1 as many as moves. No conditions. -/
import Derived.Test.YtgmlojocafepiaaGreatDoorZPerftTurn
import Derived.Test.YtgmlojocafepiaaGreatDoorCards
import Derived.Test.YtgmlojocafepiaaGreatDoorTie
import Derived.SevenTiedAt
namespace Go.Proofs.YtgmlojocafepiaaGreatDoor
set_option maxRecDepth 100000 in
/-- The tied card, under a short name, for the claim. -/
theorem perftTurnCard_holds : Rows.PerftTurnCardSaid :=
  Claim7.holds_tied_plain_at .later [] [.data] true (true, "489ddd3d65dac654676903316c55414f24b7ec92650dd636d99fdfb9f53f5ba8") false
    perftTurn.proved (fun _ h => by cases h) (by kernel_rfl) (fun _ h => by cases h) perftTurn_row_tie rfl ⟨rfl, rfl⟩ (by kernel_rfl) rfl
    (fun f fn hf hfn => by
      obtain rfl : f = 11 := Option.some.inj ((show Tryz.prog.funcNamed "riverbank/riverbanklaw11.PerftTurn" = some 11 by kernel_rfl).symm.trans hf) |>.symm
      obtain rfl : fn = Tryz.f11 := (Option.some.inj (Tryz.func11.symm.trans hfn)).symm
      exact ⟨by kernel_rfl, fun j t ht => by
        rw [Tryz.params11] at ht
        rcases j with _ | j
        · obtain rfl : t = 23 := by simpa using ht.symm
          exact (show Tryz.prog.wantsStandIn 23 = false by kernel_rfl)
        rcases j with _ | j
        · obtain rfl : t = 3 := by simpa using ht.symm
          exact (show Tryz.prog.wantsStandIn 3 = false by kernel_rfl)
        simp at ht⟩)
    (by kernel_rfl)
end Go.Proofs.YtgmlojocafepiaaGreatDoor
