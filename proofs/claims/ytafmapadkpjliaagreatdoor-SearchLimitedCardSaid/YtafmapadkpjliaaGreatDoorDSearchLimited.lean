/- SearchLimited: whatever is looked at, what is told is the best one of some depth that was asked for; of the whole, if enough may be looked at. No conditions. -/
import Derived.Test.YtafmapadkpjliaaGreatDoorZSearchLimited
import Derived.Test.YtafmapadkpjliaaGreatDoorCards
import Derived.Test.YtafmapadkpjliaaGreatDoorTie
import Derived.SevenTiedAt
namespace Go.Proofs.YtafmapadkpjliaaGreatDoor
set_option maxRecDepth 100000 in
/-- The tied card, under a short name, for the claim. -/
theorem searchLimitedCard_holds : Rows.SearchLimitedCardSaid :=
  Claim7.holds_tied_plain_at .later [] [.data] true (true, "8330d955b739fc75fb1e7ff1be67218746103a85c046b2089cbe993b63d79ec5") false
    searchLimited.proved (fun _ h => by cases h) (by kernel_rfl) (fun _ h => by cases h) searchLimited_row_tie rfl ⟨rfl, rfl⟩ (by kernel_rfl) rfl
    (fun f fn hf hfn => by
      obtain rfl : f = 5 := Option.some.inj ((show Tryz.prog.funcNamed "riverbank/riverbanklaw22.SearchLimited" = some 5 by kernel_rfl).symm.trans hf) |>.symm
      obtain rfl : fn = Tryz.f5 := (Option.some.inj (Tryz.func5.symm.trans hfn)).symm
      exact ⟨by kernel_rfl, fun j t ht => by
        rw [Tryz.params5] at ht
        rcases j with _ | j
        · obtain rfl : t = 23 := by simpa using ht.symm
          exact (show Tryz.prog.wantsStandIn 23 = false by kernel_rfl)
        rcases j with _ | j
        · obtain rfl : t = 3 := by simpa using ht.symm
          exact (show Tryz.prog.wantsStandIn 3 = false by kernel_rfl)
        rcases j with _ | j
        · obtain rfl : t = 3 := by simpa using ht.symm
          exact (show Tryz.prog.wantsStandIn 3 = false by kernel_rfl)
        simp at ht⟩)
    (by kernel_rfl)
end Go.Proofs.YtafmapadkpjliaaGreatDoor
