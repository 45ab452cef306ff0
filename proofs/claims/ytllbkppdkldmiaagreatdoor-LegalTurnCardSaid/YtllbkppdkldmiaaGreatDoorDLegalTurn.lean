/- LegalTurn: seen from the other side there are as many moves that may be made, each turned round, and the same end. No conditions. -/
import Derived.Test.YtllbkppdkldmiaaGreatDoorZLegalTurn
import Derived.Test.YtllbkppdkldmiaaGreatDoorCards
import Derived.Test.YtllbkppdkldmiaaGreatDoorTie
import Derived.SevenTiedAt
namespace Go.Proofs.YtllbkppdkldmiaaGreatDoor
set_option maxRecDepth 100000 in
/-- The tied card, under a short name, for the claim. -/
theorem legalTurnCard_holds : Rows.LegalTurnCardSaid :=
  Claim7.holds_tied_plain_at .later [] [.data] true (true, "0dcf862b27bf107414b64d7eb1bd3eb07a751a2ac1717352eeb824eeab90f824") false
    legalTurn.proved (fun _ h => by cases h) (by kernel_rfl) (fun _ h => by cases h) legalTurn_row_tie rfl ⟨rfl, rfl⟩ (by kernel_rfl) rfl
    (fun f fn hf hfn => by
      obtain rfl : f = 12 := Option.some.inj ((show Tryz.prog.funcNamed "riverbank/riverbanklaw08.LegalTurn" = some 12 by kernel_rfl).symm.trans hf) |>.symm
      obtain rfl : fn = Tryz.f12 := (Option.some.inj (Tryz.func12.symm.trans hfn)).symm
      exact ⟨by kernel_rfl, fun j t ht => by
        rw [Tryz.params12] at ht
        rcases j with _ | j
        · obtain rfl : t = 33 := by simpa using ht.symm
          exact (show Tryz.prog.wantsStandIn 33 = false by kernel_rfl)
        simp at ht⟩)
    (by kernel_rfl)
end Go.Proofs.YtllbkppdkldmiaaGreatDoor
