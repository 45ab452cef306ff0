/- Walks and plain laws that several statements lean on, joined: no statement of the seat is proved here. -/
import Derived.Test.YtgmlojocafepiaaGreatDoorB17
import Derived.Test.YtgmlojocafepiaaGreatDoorB8

/- PerftTurn: the walk. -/
namespace Go.Proofs.YtgmlojocafepiaaGreatDoor.K
open Go.RowKit Go.Lib Go.Proofs.YtgmlojocafepiaaGreatDoorW.PrintWords Go.Proofs.YtgmlojocafepiaaGreatDoor.Sp
set_option linter.unusedVariables false
set_option linter.unusedSimpArgs false
theorem cnt_turn {p : Pos} (hw : wellS p = 0) (d : Int) : cntP (turnP p) d = cntP p d := by
  obtain ⟨hbd, hsd, _⟩ := argOk_yes (checkP_board (well_check hw))
  have e1 : pbegS (turnP p) d 0 = pbegS p d 0 := by unfold pbegS; rw [well_turn hbd hsd]
  unfold cntP
  rw [e1]
  by_cases h : pbegS p d 0 ≠ 0
  · rw [if_pos h, if_pos h]
  · rw [if_neg h, if_neg h]
    exact congrArg (fun n : Nat => ((n : Int), (0 : Int))) (lines_turn d.toNat p hw)
theorem cnt_one {p : Pos} (hw : wellS p = 0) : cntP p 1 = ((((legalL p).length : Nat) : Int), (0 : Int)) := by
  have h1 : pbegS p 1 0 = 0 := by unfold pbegS; rw [if_neg (not_not_intro hw), if_neg (by omega)]
  unfold cntP
  rw [if_neg (not_not_intro h1), show ((1 : Int)).toNat = 1 from rfl, lines_one, ← legal_eq hw]
set_option maxRecDepth 100000 in
set_option maxHeartbeats 4000000 in
theorem perftTurnLaw (w : World) (p : Pos) (d : Int) (hmx : p.cells.size ≤ maxLen) (hT : TabW w) : Calls Tryz.prog 11 #[posV p, .int .i64 d] w fun e w' => e = .returned (.bool true) ∧ Below w.heap.size w w' := by
  have HT := Aside0.mk (fun (W : World) (hb : Below w.heap.size w W) => hT.below hb)
  have HLV := Aside0.mk (fun (W : World) (hT : TabW W) => live11_c W hT)
  have HFW := Aside0.mk (fun W => few_c p hmx d W)
  have HCK := Aside0.mk (fun W => rCheck_c p hmx d 0 W)
  unfold FewIs at HFW
  have hu := Tryz.underlying23
  have HB0 := Aside0.mk (BoxP.new w p)
  have HL0 := Aside0.mk (below_alloc (Below.refl w.heap.size w) (.cells #[.string p.cells, .int .i64 p.side, .int .i64 p.clock, .int .i64 p.full] 23))
  by_cases hp : pbegS p d 0 = 0
  case neg =>
    generalize pbegS p d 0 = x at *
    have hn : (x != 0) = true := by simpa using hp
    clear hmx hT hp
    go_enter Tryz.func11, Tryz.ntmps11
    go_upto_region 1 with fail
    generalize w.alloc (.cells #[.string p.cells, .int .i64 p.side, .int .i64 p.clock, .int .i64 p.full] 23) = W1 at *
    obtain ⟨e0, e1, e2, e3⟩ := HB0.out
    go_wp2_with fail
    refine (HFW.out _).mono ?_
    rintro e w1 ⟨b, rfl, hfw, hb⟩
    have HL1 := Aside0.mk (below_go HL0.out hb)
    have HB1 := Aside0.mk (HB0.out.below hb)
    clear hb e0 e1 e2 e3 hfw
    obtain ⟨e0, e1, e2, e3⟩ := HB1.out
    cases b with
    | false =>
      go_wp2_with fail
      refine (HLV.out _ (HT.out _ HL1.out)).mono ?_
      rintro e w2 ⟨rfl, hb⟩
      have HL2 := Aside0.mk (below_go HL1.out hb)
      clear hb
      go_wp2_with fail
      go_ret
      exact ⟨rfl, HL2.out⟩
    | true =>
      go_wp2_with fail
      refine (HCK.out _).mono ?_
      rintro e w2 ⟨rfl, hb⟩
      have HL2 := Aside0.mk (below_go HL1.out hb)
      clear hb
      go_wp2_with fail
      refine (HLV.out _ (HT.out _ HL2.out)).mono ?_
      rintro e w3 ⟨rfl, hb⟩
      have HL3 := Aside0.mk (below_go HL2.out hb)
      clear hb
      go_wp2_with fail
      go_ret
      exact ⟨rfl, HL3.out⟩
  case pos =>
  obtain ⟨hw, h0, h64⟩ := pbeg_zero hp
  obtain ⟨hbd, hsd, _⟩ := argOk_yes (checkP_board (well_check hw))
  rw [hp] at HCK
  have HC1 := Aside0.mk (fun (hd : d ≤ 3 ∨ 64 < d) (W : World) (hT : TabW W) => pCount_c p d hd W hT)
  have HC2 : Aside0 (∀ (hd : d ≤ 3 ∨ 64 < d) (W : World) (hT : TabW W), Calls Tryz.prog 40 #[posV (turnP p), .int .i64 d] W fun e w' => e = .returned (.tuple #[.int .i64 (cntP p d).1, .int .i64 (cntP p d).2]) ∧ Below W.heap.size W w') := ⟨fun hd W hT => by have := pCount_c (turnP p) d hd W hT; rwa [cnt_turn hw] at this⟩
  have HC3 : Aside0 (∀ (W : World) (hT : TabW W), Calls Tryz.prog 40 #[posV p, .int .i64 1] W fun e w' => e = .returned (.tuple #[.int .i64 (((legalL p).length : Nat) : Int), .int .i64 0]) ∧ Below W.heap.size W w') := ⟨fun W hT => by have := pCount_c p 1 (by omega) W hT; rwa [cnt_one hw] at this⟩
  have HTN := Aside0.mk (fun W => pturn_c p hbd hsd W)
  have HM := Aside0.mk (fun W => rmoves8_c p hmx W)
  generalize cntP p d = r at *
  obtain ⟨r1, r2⟩ := r
  clear hmx hT hp hw h0 h64 hbd hsd
  go_enter Tryz.func11, Tryz.ntmps11
  go_upto_region 1 with fail
  generalize w.alloc (.cells #[.string p.cells, .int .i64 p.side, .int .i64 p.clock, .int .i64 p.full] 23) = W1 at *
  obtain ⟨e0, e1, e2, e3⟩ := HB0.out
  go_wp2_with fail
  refine (HFW.out _).mono ?_
  rintro e w1 ⟨b, rfl, hfw, hb⟩
  have HL1 := Aside0.mk (below_go HL0.out hb)
  have HB1 := Aside0.mk (HB0.out.below hb)
  clear hb e0 e1 e2 e3
  obtain ⟨e0, e1, e2, e3⟩ := HB1.out
  cases b with
  | false =>
    clear hfw
    go_wp2_with fail
    refine (HLV.out _ (HT.out _ HL1.out)).mono ?_
    rintro e w2 ⟨rfl, hb⟩
    have HL2 := Aside0.mk (below_go HL1.out hb)
    clear hb
    go_wp2_with fail
    go_ret
    exact ⟨rfl, HL2.out⟩
  | true =>
    have HD := Aside0.mk (hfw rfl).2
    clear hfw
    go_wp2_with fail
    refine (HCK.out _).mono ?_
    rintro e w2 ⟨rfl, hb⟩
    have HL2 := Aside0.mk (below_go HL1.out hb)
    have HB2 := Aside0.mk (HB1.out.below hb)
    clear hb e0 e1 e2 e3
    obtain ⟨e0, e1, e2, e3⟩ := HB2.out
    go_wp2_with fail
    refine (HC1.out HD.out _ (HT.out _ HL2.out)).mono ?_
    rintro e w3 ⟨rfl, hb⟩
    have HL3 := Aside0.mk (below_go HL2.out hb)
    have HB3 := Aside0.mk (HB2.out.below hb)
    clear hb e0 e1 e2 e3
    obtain ⟨e0, e1, e2, e3⟩ := HB3.out
    go_wp2_with fail
    refine (HTN.out _).mono ?_
    rintro e w4 ⟨rfl, hb⟩
    have HL4 := Aside0.mk (below_go HL3.out hb)
    have HB4 := Aside0.mk (HB3.out.below hb)
    clear hb e0 e1 e2 e3
    obtain ⟨e0, e1, e2, e3⟩ := HB4.out
    go_wp2_with fail
    refine (HC2.out HD.out _ (HT.out _ HL4.out)).mono ?_
    rintro e w5 ⟨rfl, hb⟩
    have HL5 := Aside0.mk (below_go HL4.out hb)
    have HB5 := Aside0.mk (HB4.out.below hb)
    clear hb e0 e1 e2 e3
    obtain ⟨e0, e1, e2, e3⟩ := HB5.out
    go_wp2_with fail
    refine (HC3.out _ (HT.out _ HL5.out)).mono ?_
    rintro e w6 ⟨rfl, hb⟩
    have HL6 := Aside0.mk (below_go HL5.out hb)
    have HB6 := Aside0.mk (HB5.out.below hb)
    clear hb e0 e1 e2 e3
    obtain ⟨e0, e1, e2, e3⟩ := HB6.out
    go_wp2_with fail
    refine (HM.out _).mono ?_
    rintro e w7 ⟨v, rfl, ho, hb⟩
    have HL7 := Aside0.mk (below_go HL6.out hb)
    obtain ⟨A, cp, rfl⟩ := row_form ho
    clear hb ho e0 e1 e2 e3
    go_wp2_with fail
    refine (HLV.out _ (HT.out _ HL7.out)).mono ?_
    rintro e w8 ⟨rfl, hb⟩
    have HL8 := Aside0.mk (below_go HL7.out hb)
    clear hb
    go_wp2_with fail
    go_ret
    exact ⟨rfl, HL8.out⟩
end Go.Proofs.YtgmlojocafepiaaGreatDoor.K
