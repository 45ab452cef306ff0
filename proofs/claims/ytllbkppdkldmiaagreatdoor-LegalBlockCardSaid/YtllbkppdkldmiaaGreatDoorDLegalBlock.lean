/- LegalBlock: a general that is attacked is not attacked any more behind any move that may be made. No conditions. -/
import Derived.Test.YtllbkppdkldmiaaGreatDoorZLegalBlock
import Derived.Test.YtllbkppdkldmiaaGreatDoorCards
import Derived.Test.YtllbkppdkldmiaaGreatDoorTie
import Derived.SevenTiedAt
namespace Go.Proofs.YtllbkppdkldmiaaGreatDoor
set_option maxRecDepth 100000 in
/-- The tied card, under a short name, for the claim. -/
theorem legalBlockCard_holds : Rows.LegalBlockCardSaid :=
  Claim7.holds_tied_plain_at .later [] [.data] true (true, "0dcf862b27bf107414b64d7eb1bd3eb07a751a2ac1717352eeb824eeab90f824") false
    legalBlock.proved (fun _ h => by cases h) (by kernel_rfl) (fun _ h => by cases h) legalBlock_row_tie rfl ⟨rfl, rfl⟩ (by kernel_rfl) rfl
    (fun f fn hf hfn => by
      obtain rfl : f = 15 := Option.some.inj ((show Tryz.prog.funcNamed "riverbank/riverbanklaw08.LegalBlock" = some 15 by kernel_rfl).symm.trans hf) |>.symm
      obtain rfl : fn = Tryz.f15 := (Option.some.inj (Tryz.func15.symm.trans hfn)).symm
      exact ⟨by kernel_rfl, fun j t ht => by
        rw [Tryz.params15] at ht
        rcases j with _ | j
        · obtain rfl : t = 33 := by simpa using ht.symm
          exact (show Tryz.prog.wantsStandIn 33 = false by kernel_rfl)
        simp at ht⟩)
    (by kernel_rfl)
end Go.Proofs.YtllbkppdkldmiaaGreatDoor
