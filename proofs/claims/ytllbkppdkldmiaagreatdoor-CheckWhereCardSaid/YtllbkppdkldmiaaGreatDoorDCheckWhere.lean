/- CheckWhere: what stands on a square is of no moment to who attacks it. No conditions. -/
import Derived.Test.YtllbkppdkldmiaaGreatDoorZCheckWhere
import Derived.Test.YtllbkppdkldmiaaGreatDoorCards
import Derived.Test.YtllbkppdkldmiaaGreatDoorTie
import Derived.SevenTiedAt
namespace Go.Proofs.YtllbkppdkldmiaaGreatDoor
set_option maxRecDepth 100000 in
/-- The tied card, under a short name, for the claim. -/
theorem checkWhereCard_holds : Rows.CheckWhereCardSaid :=
  Claim7.holds_tied_plain_at .later [] [.data] true (true, "0dcf862b27bf107414b64d7eb1bd3eb07a751a2ac1717352eeb824eeab90f824") false
    checkWhere.proved (fun _ h => by cases h) (by kernel_rfl) (fun _ h => by cases h) checkWhere_row_tie rfl ⟨rfl, rfl⟩ (by kernel_rfl) rfl
    (fun f fn hf hfn => by
      obtain rfl : f = 7 := Option.some.inj ((show Tryz.prog.funcNamed "riverbank/riverbanklaw07.CheckWhere" = some 7 by kernel_rfl).symm.trans hf) |>.symm
      obtain rfl : fn = Tryz.f7 := (Option.some.inj (Tryz.func7.symm.trans hfn)).symm
      exact ⟨by kernel_rfl, fun j t ht => by
        rw [Tryz.params7] at ht
        rcases j with _ | j
        · obtain rfl : t = 9 := by simpa using ht.symm
          exact (show Tryz.prog.wantsStandIn 9 = false by kernel_rfl)
        rcases j with _ | j
        · obtain rfl : t = 3 := by simpa using ht.symm
          exact (show Tryz.prog.wantsStandIn 3 = false by kernel_rfl)
        rcases j with _ | j
        · obtain rfl : t = 5 := by simpa using ht.symm
          exact (show Tryz.prog.wantsStandIn 5 = false by kernel_rfl)
        simp at ht⟩)
    (by kernel_rfl)
end Go.Proofs.YtllbkppdkldmiaaGreatDoor
