/- Walks and plain laws that several statements lean on, joined: no statement of the seat is proved here. -/
import Derived.Test.YtllbkppdkldmiaaGreatDoorB15

/- LegalEnds: the walk. -/
namespace Go.Proofs.YtllbkppdkldmiaaGreatDoor.K
open Go.RowKit Go.Lib Go.Proofs.YtllbkppdkldmiaaGreatDoorW.PrintWords Go.Proofs.YtllbkppdkldmiaaGreatDoor.Sp
set_option linter.unusedVariables false
set_option linter.unusedSimpArgs false
set_option maxRecDepth 100000 in
set_option maxHeartbeats 4000000 in
theorem legalEndsLaw (w : World) (p : Pos) (hmx : p.cells.size ≤ maxLen) (hT : TabW w) : Calls Tryz.prog 13 #[posV p] w fun e w' => e = .returned (.bool true) ∧ Below w.heap.size w w' := by
  have HT := Aside0.mk (fun (W : World) (hb : Below w.heap.size w W) => hT.below hb)
  have HLV := Aside0.mk (fun (W : World) (hT : TabW W) => live8_c W hT)
  have hu := Tryz.underlying33
  have HP0 := Aside0.mk (LmAt.new w p)
  by_cases h200 : p.cells.size > 200
  · have h1 : (200 : Int) < (p.cells.size : Int) := by omega
    clear h200 hmx hT
    go_enter Tryz.func13, Tryz.ntmps13
    go_wp2_with (go_at_call 38; refine (HLV.out _ (HT.out _ HP0.out.bel)).mono ?_; rintro e w1 ⟨rfl, hb⟩; have HW1 := Aside0.mk (HP0.out.below hb).bel; clear hb)
    go_ret
    exact ⟨rfl, HW1.out⟩
  have h1 : (p.cells.size : Int) ≤ 200 := by omega
  have HM := Aside0.mk (fun (W : World) (hT : TabW W) => lmoves_c p W hT)
  have HE := Aside0.mk (fun (W : World) (hT : TabW W) => lend_c p W hT)
  have HW := Aside0.mk (fun (W : World) (hT : TabW W) => well_c p W hT)
  have HI := Aside0.mk (fun (W : World) (hT : TabW W) => in_c p.cells p.side W hT)
  have hee := end_eq p
  have HLL := Aside0.mk (legal_len2 p)
  clear h200 hmx hT
  by_cases hw : wellS p = 0
  case neg =>
    have h2 : (wellS p != 0) = true := by simpa using hw
    rw [if_pos hw] at hee
    rw [hee] at HE
    clear hw hee HM HI HLL
    generalize wellS p = r at *
    go_enter Tryz.func13, Tryz.ntmps13
    go_wp2_with (first
      | (go_at_call 44; refine (HE.out _ (HT.out _ HP0.out.bel)).mono ?_; rintro e w1 ⟨rfl, hb⟩; have HP1 := Aside0.mk (HP0.out.below hb); clear hb; obtain ⟨e0, e1, e2, e3⟩ := HP1.out.box)
      | (go_at_call 31; refine (HW.out _ (HT.out _ HP1.out.bel)).mono ?_; rintro e w2 ⟨rfl, hb⟩; have HP2 := Aside0.mk (HP1.out.below hb); clear hb)
      | (go_at_call 38; refine (HLV.out _ (HT.out _ HP2.out.bel)).mono ?_; rintro e w3 ⟨rfl, hb⟩; have HP3 := Aside0.mk (HP2.out.below hb).bel; clear hb))
    go_ret
    exact ⟨rfl, HP3.out⟩
  rw [if_neg (by simpa using hw)] at hee
  rw [hw] at HW
  clear hw
  generalize legalL p = l at *
  have hll : (l.length : Int) ≤ 8100 := by have := HLL.out; omega
  by_cases hl : 0 < l.length
  · have hlz : (0 : Int) < (l.length : Int) := by omega
    rw [if_pos hl] at hee
    rw [hee] at HE
    generalize inS p.cells p.side = ii at *
    clear hl hee
    go_enter Tryz.func13, Tryz.ntmps13
    go_wp2_with (first
      | (go_at_call 44; refine (HE.out _ (HT.out _ HP0.out.bel)).mono ?_; rintro e w1 ⟨rfl, hb⟩; have HP1 := Aside0.mk (HP0.out.below hb); clear hb; obtain ⟨e0, e1, e2, e3⟩ := HP1.out.box)
      | (go_at_call 31; refine (HW.out _ (HT.out _ HP1.out.bel)).mono ?_; rintro e w2 ⟨rfl, hb⟩; have HP2 := Aside0.mk (HP1.out.below hb); clear hb e0 e1 e2 e3; obtain ⟨e0, e1, e2, e3⟩ := HP2.out.box)
      | (go_at_call 40; refine (HM.out _ (HT.out _ HP2.out.bel)).mono ?_; rintro e w3 ⟨v, rfl, ho, hb⟩; have HP3 := Aside0.mk (HP2.out.below hb); obtain ⟨A, cap, hv⟩ := ho.reads.form; subst hv; clear ho hb e0 e1 e2 e3; obtain ⟨e0, e1, e2, e3⟩ := HP3.out.box)
      | (go_at_call 24; refine (HI.out _ (HT.out _ HP3.out.bel)).mono ?_; rintro e w4 ⟨rfl, hb⟩; have HP4 := Aside0.mk (HP3.out.below hb); clear hb e0 e1 e2 e3)
      | (go_at_call 38; refine (HLV.out _ (HT.out _ HP4.out.bel)).mono ?_; rintro e w5 ⟨rfl, hb⟩; have HP5 := Aside0.mk (HP4.out.below hb).bel; clear hb))
    go_ret
    exact ⟨rfl, HP5.out⟩
  · obtain rfl : l = [] := List.length_eq_zero_iff.1 (by omega)
    rw [if_neg hl] at hee
    clear hl hll
    cases hi : inS p.cells p.side
    all_goals
      rw [hi] at HI hee
      simp only [Bool.false_eq_true, reduceIte] at hee
      rw [hee] at HE
      clear hee hi
      go_enter Tryz.func13, Tryz.ntmps13
      go_wp2_with (first
        | (go_at_call 44; refine (HE.out _ (HT.out _ HP0.out.bel)).mono ?_; rintro e w1 ⟨rfl, hb⟩; have HP1 := Aside0.mk (HP0.out.below hb); clear hb; obtain ⟨e0, e1, e2, e3⟩ := HP1.out.box)
        | (go_at_call 31; refine (HW.out _ (HT.out _ HP1.out.bel)).mono ?_; rintro e w2 ⟨rfl, hb⟩; have HP2 := Aside0.mk (HP1.out.below hb); clear hb e0 e1 e2 e3; obtain ⟨e0, e1, e2, e3⟩ := HP2.out.box)
        | (go_at_call 40; refine (HM.out _ (HT.out _ HP2.out.bel)).mono ?_; rintro e w3 ⟨v, rfl, ho, hb⟩; have HP3 := Aside0.mk (HP2.out.below hb); obtain ⟨A, cap, hv⟩ := ho.reads.form; have hv2 : v = .slice A 0 cap := hv; clear hv; subst hv2; clear ho hb e0 e1 e2 e3; obtain ⟨e0, e1, e2, e3⟩ := HP3.out.box)
        | (go_at_call 24; refine (HI.out _ (HT.out _ HP3.out.bel)).mono ?_; rintro e w4 ⟨rfl, hb⟩; have HP4 := Aside0.mk (HP3.out.below hb); clear hb e0 e1 e2 e3)
        | (go_at_call 38; refine (HLV.out _ (HT.out _ HP4.out.bel)).mono ?_; rintro e w5 ⟨rfl, hb⟩; have HP5 := Aside0.mk (HP4.out.below hb).bel; clear hb))
      go_ret
      exact ⟨rfl, HP5.out⟩
end Go.Proofs.YtllbkppdkldmiaaGreatDoor.K
