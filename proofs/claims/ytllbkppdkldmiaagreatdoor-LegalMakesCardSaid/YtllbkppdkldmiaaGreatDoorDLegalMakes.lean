/- LegalMakes: for every position and every move what is behind it, what was taken, or why it may not be made, is the document's answer. No conditions. -/
import Derived.Test.YtllbkppdkldmiaaGreatDoorZLegalMakes
import Derived.Test.YtllbkppdkldmiaaGreatDoorCards
import Derived.Test.YtllbkppdkldmiaaGreatDoorTie
import Derived.SevenTiedAt
namespace Go.Proofs.YtllbkppdkldmiaaGreatDoor
set_option maxRecDepth 100000 in
/-- The tied card, under a short name, for the claim. -/
theorem legalMakesCard_holds : Rows.LegalMakesCardSaid :=
  Claim7.holds_tied_plain_at .later [] [.data] true (true, "0dcf862b27bf107414b64d7eb1bd3eb07a751a2ac1717352eeb824eeab90f824") false
    legalMakes.proved (fun _ h => by cases h) (by kernel_rfl) (fun _ h => by cases h) legalMakes_row_tie rfl ⟨rfl, rfl⟩ (by kernel_rfl) rfl
    (fun f fn hf hfn => by
      obtain rfl : f = 10 := Option.some.inj ((show Tryz.prog.funcNamed "riverbank/riverbanklaw08.LegalMakes" = some 10 by kernel_rfl).symm.trans hf) |>.symm
      obtain rfl : fn = Tryz.f10 := (Option.some.inj (Tryz.func10.symm.trans hfn)).symm
      exact ⟨by kernel_rfl, fun j t ht => by
        rw [Tryz.params10] at ht
        rcases j with _ | j
        · obtain rfl : t = 33 := by simpa using ht.symm
          exact (show Tryz.prog.wantsStandIn 33 = false by kernel_rfl)
        rcases j with _ | j
        · obtain rfl : t = 49 := by simpa using ht.symm
          exact (show Tryz.prog.wantsStandIn 49 = false by kernel_rfl)
        simp at ht⟩)
    (by kernel_rfl)
end Go.Proofs.YtllbkppdkldmiaaGreatDoor
