/- GameFull: no more than 1024 plies are made; one is taken back, and one more is made. No conditions. -/
import Derived.Test.YtgmlojocafepiaaGreatDoorZGameFull
import Derived.Test.YtgmlojocafepiaaGreatDoorCards
import Derived.Test.YtgmlojocafepiaaGreatDoorTie
import Derived.SevenTiedAt
namespace Go.Proofs.YtgmlojocafepiaaGreatDoor
set_option maxRecDepth 100000 in
/-- The tied card, under a short name, for the claim. -/
theorem gameFullCard_holds : Rows.GameFullCardSaid :=
  Claim7.holds_tied_plain_at .later [] [.data] true (true, "489ddd3d65dac654676903316c55414f24b7ec92650dd636d99fdfb9f53f5ba8") false
    gameFull.proved (fun _ h => by cases h) (by kernel_rfl) (fun _ h => by cases h) gameFull_row_tie rfl ⟨rfl, rfl⟩ (by kernel_rfl) rfl
    (fun f fn hf hfn => by
      obtain rfl : f = 5 := Option.some.inj ((show Tryz.prog.funcNamed "riverbank/riverbanklaw09.GameFull" = some 5 by kernel_rfl).symm.trans hf) |>.symm
      obtain rfl : fn = Tryz.f5 := (Option.some.inj (Tryz.func5.symm.trans hfn)).symm
      exact ⟨by kernel_rfl, fun j t ht => by
        rw [Tryz.params5] at ht
        rcases j with _ | j
        · obtain rfl : t = 3 := by simpa using ht.symm
          exact (show Tryz.prog.wantsStandIn 3 = false by kernel_rfl)
        simp at ht⟩)
    (by kernel_rfl)
end Go.Proofs.YtgmlojocafepiaaGreatDoor
