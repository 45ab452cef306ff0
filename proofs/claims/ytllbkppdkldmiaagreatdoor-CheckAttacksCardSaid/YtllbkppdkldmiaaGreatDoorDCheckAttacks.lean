/- CheckAttacks: for every board who attacks any square, where generals stand, whether they face one another or are attacked is the document's answer. No conditions. -/
import Derived.Test.YtllbkppdkldmiaaGreatDoorZCheckAttacks
import Derived.Test.YtllbkppdkldmiaaGreatDoorCards
import Derived.Test.YtllbkppdkldmiaaGreatDoorTie
import Derived.SevenTiedAt
namespace Go.Proofs.YtllbkppdkldmiaaGreatDoor
set_option maxRecDepth 100000 in
/-- The tied card, under a short name, for the claim. -/
theorem checkAttacksCard_holds : Rows.CheckAttacksCardSaid :=
  Claim7.holds_tied_plain_at .later [] [.data] true (true, "0dcf862b27bf107414b64d7eb1bd3eb07a751a2ac1717352eeb824eeab90f824") false
    checkAttacks.proved (fun _ h => by cases h) (by kernel_rfl) (fun _ h => by cases h) checkAttacks_row_tie rfl ⟨rfl, rfl⟩ (by kernel_rfl) rfl
    (fun f fn hf hfn => by
      obtain rfl : f = 3 := Option.some.inj ((show Tryz.prog.funcNamed "riverbank/riverbanklaw07.CheckAttacks" = some 3 by kernel_rfl).symm.trans hf) |>.symm
      obtain rfl : fn = Tryz.f3 := (Option.some.inj (Tryz.func3.symm.trans hfn)).symm
      exact ⟨by kernel_rfl, fun j t ht => by
        rw [Tryz.params3] at ht
        rcases j with _ | j
        · obtain rfl : t = 9 := by simpa using ht.symm
          exact (show Tryz.prog.wantsStandIn 9 = false by kernel_rfl)
        rcases j with _ | j
        · obtain rfl : t = 3 := by simpa using ht.symm
          exact (show Tryz.prog.wantsStandIn 3 = false by kernel_rfl)
        rcases j with _ | j
        · obtain rfl : t = 3 := by simpa using ht.symm
          exact (show Tryz.prog.wantsStandIn 3 = false by kernel_rfl)
        simp at ht⟩)
    (by kernel_rfl)
end Go.Proofs.YtllbkppdkldmiaaGreatDoor
