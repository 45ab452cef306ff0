/- QuietWindow: what lies between two bounds lies there; between wider ones it is the same. No conditions. -/
import Derived.Test.YtdkghbbjillboaaGreatDoorZQuietWindow
import Derived.Test.YtdkghbbjillboaaGreatDoorCards
import Derived.Test.YtdkghbbjillboaaGreatDoorTie
import Derived.SevenTiedAt
namespace Go.Proofs.YtdkghbbjillboaaGreatDoor
set_option maxRecDepth 100000 in
/-- The tied card, under a short name, for the claim. -/
theorem quietWindowCard_holds : Rows.QuietWindowCardSaid :=
  Claim7.holds_tied_plain_at .later [] [.data] true (true, "da0c35ca9ffe7c04262bb2b0062326a3d439cc40cc142dd4cf43b9a4419713ac") false
    quietWindow.proved (fun _ h => by cases h) (by kernel_rfl) (fun _ h => by cases h) quietWindow_row_tie rfl ⟨rfl, rfl⟩ (by kernel_rfl) rfl
    (fun f fn hf hfn => by
      obtain rfl : f = 5 := Option.some.inj ((show Tryz.prog.funcNamed "riverbank/riverbanklaw21.QuietWindow" = some 5 by kernel_rfl).symm.trans hf) |>.symm
      obtain rfl : fn = Tryz.f5 := (Option.some.inj (Tryz.func5.symm.trans hfn)).symm
      exact ⟨by kernel_rfl, fun j t ht => by
        rw [Tryz.params5] at ht
        rcases j with _ | j
        · obtain rfl : t = 23 := by simpa using ht.symm
          exact (show Tryz.prog.wantsStandIn 23 = false by kernel_rfl)
        rcases j with _ | j
        · obtain rfl : t = 3 := by simpa using ht.symm
          exact (show Tryz.prog.wantsStandIn 3 = false by kernel_rfl)
        rcases j with _ | j
        · obtain rfl : t = 3 := by simpa using ht.symm
          exact (show Tryz.prog.wantsStandIn 3 = false by kernel_rfl)
        simp at ht⟩)
    (by kernel_rfl)
end Go.Proofs.YtdkghbbjillboaaGreatDoor
