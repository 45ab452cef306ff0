/- CheckWell: for every position what is wrong with it is the document's answer. No conditions. -/
import Derived.Test.YtcanbidenhcohaaGreatDoorZCheckWell
import Derived.Test.YtcanbidenhcohaaGreatDoorCards
import Derived.Test.YtcanbidenhcohaaGreatDoorTie
import Derived.SevenTiedAt
namespace Go.Proofs.YtcanbidenhcohaaGreatDoor
set_option maxRecDepth 100000 in
/-- The tied card, under a short name, for the claim. -/
theorem checkWellCard_holds : Rows.CheckWellCardSaid :=
  Claim7.holds_tied_plain_at .later [] [.data] true (true, "e917584146d7d99e3a07f89be373bdab65af6ee95b1c928782c012bb57bb107a") false
    checkWell.proved (fun _ h => by cases h) (by kernel_rfl) (fun _ h => by cases h) checkWell_row_tie rfl ⟨rfl, rfl⟩ (by kernel_rfl) rfl
    (fun f fn hf hfn => by
      obtain rfl : f = 4 := Option.some.inj ((show Tryz.prog.funcNamed "riverbank/riverbanklaw07.CheckWell" = some 4 by kernel_rfl).symm.trans hf) |>.symm
      obtain rfl : fn = Tryz.f4 := (Option.some.inj (Tryz.func4.symm.trans hfn)).symm
      exact ⟨by kernel_rfl, fun j t ht => by
        rw [Tryz.params4] at ht
        rcases j with _ | j
        · obtain rfl : t = 31 := by simpa using ht.symm
          exact (show Tryz.prog.wantsStandIn 31 = false by kernel_rfl)
        simp at ht⟩)
    (by kernel_rfl)
end Go.Proofs.YtcanbidenhcohaaGreatDoor
