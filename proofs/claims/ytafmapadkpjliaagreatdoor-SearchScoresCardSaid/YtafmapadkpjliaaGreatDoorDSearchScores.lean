/- SearchScores: what any position is worth, looked at any depth that the statement lets in, is the document's answer. No conditions. -/
import Derived.Test.YtafmapadkpjliaaGreatDoorZSearchScores
import Derived.Test.YtafmapadkpjliaaGreatDoorCards
import Derived.Test.YtafmapadkpjliaaGreatDoorTie
import Derived.SevenTiedAt
namespace Go.Proofs.YtafmapadkpjliaaGreatDoor
set_option maxRecDepth 100000 in
/-- The tied card, under a short name, for the claim. -/
theorem searchScoresCard_holds : Rows.SearchScoresCardSaid :=
  Claim7.holds_tied_plain_at .later [] [.data] true (true, "8330d955b739fc75fb1e7ff1be67218746103a85c046b2089cbe993b63d79ec5") false
    searchScores.proved (fun _ h => by cases h) (by kernel_rfl) (fun _ h => by cases h) searchScores_row_tie rfl ⟨rfl, rfl⟩ (by kernel_rfl) rfl
    (fun f fn hf hfn => by
      obtain rfl : f = 3 := Option.some.inj ((show Tryz.prog.funcNamed "riverbank/riverbanklaw22.SearchScores" = some 3 by kernel_rfl).symm.trans hf) |>.symm
      obtain rfl : fn = Tryz.f3 := (Option.some.inj (Tryz.func3.symm.trans hfn)).symm
      exact ⟨by kernel_rfl, fun j t ht => by
        rw [Tryz.params3] at ht
        rcases j with _ | j
        · obtain rfl : t = 23 := by simpa using ht.symm
          exact (show Tryz.prog.wantsStandIn 23 = false by kernel_rfl)
        rcases j with _ | j
        · obtain rfl : t = 3 := by simpa using ht.symm
          exact (show Tryz.prog.wantsStandIn 3 = false by kernel_rfl)
        simp at ht⟩)
    (by kernel_rfl)
end Go.Proofs.YtafmapadkpjliaaGreatDoor
