/- PerftCounts: how many lines of any depth there are, or why none are counted. No conditions. -/
import Derived.Test.YtgmlojocafepiaaGreatDoorZPerftCounts
import Derived.Test.YtgmlojocafepiaaGreatDoorCards
import Derived.Test.YtgmlojocafepiaaGreatDoorTie
import Derived.SevenTiedAt
namespace Go.Proofs.YtgmlojocafepiaaGreatDoor
set_option maxRecDepth 100000 in
/-- The tied card, under a short name, for the claim. -/
theorem perftCountsCard_holds : Rows.PerftCountsCardSaid :=
  Claim7.holds_tied_plain_at .later [] [.data] true (true, "489ddd3d65dac654676903316c55414f24b7ec92650dd636d99fdfb9f53f5ba8") false
    perftCounts.proved (fun _ h => by cases h) (by kernel_rfl) (fun _ h => by cases h) perftCounts_row_tie rfl ⟨rfl, rfl⟩ (by kernel_rfl) rfl
    (fun f fn hf hfn => by
      obtain rfl : f = 10 := Option.some.inj ((show Tryz.prog.funcNamed "riverbank/riverbanklaw11.PerftCounts" = some 10 by kernel_rfl).symm.trans hf) |>.symm
      obtain rfl : fn = Tryz.f10 := (Option.some.inj (Tryz.func10.symm.trans hfn)).symm
      exact ⟨by kernel_rfl, fun j t ht => by
        rw [Tryz.params10] at ht
        rcases j with _ | j
        · obtain rfl : t = 23 := by simpa using ht.symm
          exact (show Tryz.prog.wantsStandIn 23 = false by kernel_rfl)
        rcases j with _ | j
        · obtain rfl : t = 3 := by simpa using ht.symm
          exact (show Tryz.prog.wantsStandIn 3 = false by kernel_rfl)
        simp at ht⟩)
    (by kernel_rfl)
end Go.Proofs.YtgmlojocafepiaaGreatDoor
