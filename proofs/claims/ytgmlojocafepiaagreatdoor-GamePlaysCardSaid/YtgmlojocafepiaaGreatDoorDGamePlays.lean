/- GamePlays: whatever is made and taken back, a game is at the position that the document says, with the moves that led to it, and its pieces where they are. No conditions. -/
import Derived.Test.YtgmlojocafepiaaGreatDoorZGamePlays
import Derived.Test.YtgmlojocafepiaaGreatDoorCards
import Derived.Test.YtgmlojocafepiaaGreatDoorTie
import Derived.SevenTiedAt
namespace Go.Proofs.YtgmlojocafepiaaGreatDoor
set_option maxRecDepth 100000 in
/-- The tied card, under a short name, for the claim. -/
theorem gamePlaysCard_holds : Rows.GamePlaysCardSaid :=
  Claim7.holds_tied_plain_at .later [] [.data] true (true, "489ddd3d65dac654676903316c55414f24b7ec92650dd636d99fdfb9f53f5ba8") false
    gamePlays.proved (fun _ h => by cases h) (by kernel_rfl) (fun _ h => by cases h) gamePlays_row_tie rfl ⟨rfl, rfl⟩ (by kernel_rfl) rfl
    (fun f fn hf hfn => by
      obtain rfl : f = 4 := Option.some.inj ((show Tryz.prog.funcNamed "riverbank/riverbanklaw09.GamePlays" = some 4 by kernel_rfl).symm.trans hf) |>.symm
      obtain rfl : fn = Tryz.f4 := (Option.some.inj (Tryz.func4.symm.trans hfn)).symm
      exact ⟨by kernel_rfl, fun j t ht => by
        rw [Tryz.params4] at ht
        rcases j with _ | j
        · obtain rfl : t = 23 := by simpa using ht.symm
          exact (show Tryz.prog.wantsStandIn 23 = false by kernel_rfl)
        rcases j with _ | j
        · obtain rfl : t = 36 := by simpa using ht.symm
          exact (show Tryz.prog.wantsStandIn 36 = false by kernel_rfl)
        simp at ht⟩)
    (by kernel_rfl)
end Go.Proofs.YtgmlojocafepiaaGreatDoor
