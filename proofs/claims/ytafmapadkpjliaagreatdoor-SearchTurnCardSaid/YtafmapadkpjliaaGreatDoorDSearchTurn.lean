/- SearchTurn: seen from the other side a position is worth the same, as deep as it is looked at. No conditions. -/
import Derived.Test.YtafmapadkpjliaaGreatDoorZSearchTurn
import Derived.Test.YtafmapadkpjliaaGreatDoorCards
import Derived.Test.YtafmapadkpjliaaGreatDoorTie
import Derived.SevenTiedAt
namespace Go.Proofs.YtafmapadkpjliaaGreatDoor
set_option maxRecDepth 100000 in
/-- The tied card, under a short name, for the claim. -/
theorem searchTurnCard_holds : Rows.SearchTurnCardSaid :=
  Claim7.holds_tied_plain_at .later [] [.data] true (true, "8330d955b739fc75fb1e7ff1be67218746103a85c046b2089cbe993b63d79ec5") false
    searchTurn.proved (fun _ h => by cases h) (by kernel_rfl) (fun _ h => by cases h) searchTurn_row_tie rfl ⟨rfl, rfl⟩ (by kernel_rfl) rfl
    (fun f fn hf hfn => by
      obtain rfl : f = 6 := Option.some.inj ((show Tryz.prog.funcNamed "riverbank/riverbanklaw22.SearchTurn" = some 6 by kernel_rfl).symm.trans hf) |>.symm
      obtain rfl : fn = Tryz.f6 := (Option.some.inj (Tryz.func6.symm.trans hfn)).symm
      exact ⟨by kernel_rfl, fun j t ht => by
        rw [Tryz.params6] at ht
        rcases j with _ | j
        · obtain rfl : t = 23 := by simpa using ht.symm
          exact (show Tryz.prog.wantsStandIn 23 = false by kernel_rfl)
        rcases j with _ | j
        · obtain rfl : t = 3 := by simpa using ht.symm
          exact (show Tryz.prog.wantsStandIn 3 = false by kernel_rfl)
        simp at ht⟩)
    (by kernel_rfl)
end Go.Proofs.YtafmapadkpjliaaGreatDoor
