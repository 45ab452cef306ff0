/- SearchBest: the best one of any moves, with a table of any size, again and again with the same one, or why there is none, is the document's answer. No conditions. -/
import Derived.Test.YtafmapadkpjliaaGreatDoorZSearchBest
import Derived.Test.YtafmapadkpjliaaGreatDoorCards
import Derived.Test.YtafmapadkpjliaaGreatDoorTie
import Derived.SevenTiedAt
namespace Go.Proofs.YtafmapadkpjliaaGreatDoor
set_option maxRecDepth 100000 in
/-- The tied card, under a short name, for the claim. -/
theorem searchBestCard_holds : Rows.SearchBestCardSaid :=
  Claim7.holds_tied_plain_at .later [] [.data] true (true, "8330d955b739fc75fb1e7ff1be67218746103a85c046b2089cbe993b63d79ec5") false
    searchBest.proved (fun _ h => by cases h) (by kernel_rfl) (fun _ h => by cases h) searchBest_row_tie rfl ⟨rfl, rfl⟩ (by kernel_rfl) rfl
    (fun f fn hf hfn => by
      obtain rfl : f = 4 := Option.some.inj ((show Tryz.prog.funcNamed "riverbank/riverbanklaw22.SearchBest" = some 4 by kernel_rfl).symm.trans hf) |>.symm
      obtain rfl : fn = Tryz.f4 := (Option.some.inj (Tryz.func4.symm.trans hfn)).symm
      exact ⟨by kernel_rfl, fun j t ht => by
        rw [Tryz.params4] at ht
        rcases j with _ | j
        · obtain rfl : t = 31 := by simpa using ht.symm
          exact (show Tryz.prog.wantsStandIn 31 = false by kernel_rfl)
        simp at ht⟩)
    (by kernel_rfl)
end Go.Proofs.YtafmapadkpjliaaGreatDoor
