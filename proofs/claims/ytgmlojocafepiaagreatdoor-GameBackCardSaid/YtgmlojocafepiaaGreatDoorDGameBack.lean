/- GameBack: moves that are made, and all taken back, leave the position that there was, in all fields; a copy that was taken goes on by itself. No conditions. -/
import Derived.Test.YtgmlojocafepiaaGreatDoorZGameBack
import Derived.Test.YtgmlojocafepiaaGreatDoorCards
import Derived.Test.YtgmlojocafepiaaGreatDoorTie
import Derived.SevenTiedAt
namespace Go.Proofs.YtgmlojocafepiaaGreatDoor
set_option maxRecDepth 100000 in
/-- The tied card, under a short name, for the claim. -/
theorem gameBackCard_holds : Rows.GameBackCardSaid :=
  Claim7.holds_tied_plain_at .later [] [.data] true (true, "489ddd3d65dac654676903316c55414f24b7ec92650dd636d99fdfb9f53f5ba8") false
    gameBack.proved (fun _ h => by cases h) (by kernel_rfl) (fun _ h => by cases h) gameBack_row_tie rfl ⟨rfl, rfl⟩ (by kernel_rfl) rfl
    (fun f fn hf hfn => by
      obtain rfl : f = 8 := Option.some.inj ((show Tryz.prog.funcNamed "riverbank/riverbanklaw09.GameBack" = some 8 by kernel_rfl).symm.trans hf) |>.symm
      obtain rfl : fn = Tryz.f8 := (Option.some.inj (Tryz.func8.symm.trans hfn)).symm
      exact ⟨by kernel_rfl, fun j t ht => by
        rw [Tryz.params8] at ht
        rcases j with _ | j
        · obtain rfl : t = 23 := by simpa using ht.symm
          exact (show Tryz.prog.wantsStandIn 23 = false by kernel_rfl)
        rcases j with _ | j
        · obtain rfl : t = 26 := by simpa using ht.symm
          exact (show Tryz.prog.wantsStandIn 26 = false by kernel_rfl)
        simp at ht⟩)
    (by kernel_rfl)
end Go.Proofs.YtgmlojocafepiaaGreatDoor
