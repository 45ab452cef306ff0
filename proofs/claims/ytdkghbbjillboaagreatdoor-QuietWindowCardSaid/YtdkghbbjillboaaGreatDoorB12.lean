/- Walks and plain laws that several statements lean on, joined: no statement of the seat is proved here. -/
import Derived.Test.YtdkghbbjillboaaGreatDoorB10
import Derived.Test.YtdkghbbjillboaaGreatDoorB11
import Derived.Test.YtdkghbbjillboaaGreatDoorB8

/- QuietTurn, QuietWindow: the walks. -/
namespace Go.Proofs.YtdkghbbjillboaaGreatDoor.K
open Go.RowKit Go.Lib Go.Proofs.YtdkghbbjillboaaGreatDoorW.PrintWords Go.Proofs.YtdkghbbjillboaaGreatDoor.Sp
set_option linter.unusedVariables false
set_option linter.unusedSimpArgs false
/-- Two positions' boxes. -/
structure TqAt (w0 W : World) (p q : Pos) (qb : Nat) : Prop where
  lm : LmAt w0 W p
  qx : BoxP W qb q
theorem TqAt.below {w0 W W' : World} {p q : Pos} {qb : Nat} (h : TqAt w0 W p q qb) (hb : Below W.heap.size W W') : TqAt w0 W' p q qb := ⟨h.lm.below hb, h.qx.below hb⟩
set_option maxRecDepth 100000 in
set_option maxHeartbeats 4000000 in
theorem quietTurnLaw (w : World) (p : Pos) (low high : Int) (hmx : p.cells.size ≤ maxLen) (hT : TabW w) : Calls Tryz.prog 4 #[posV p, .int .i64 low, .int .i64 high] w fun e w' => e = .returned (.bool true) ∧ Below w.heap.size w w' := by
  have HT := Aside0.mk (fun (W : World) (hb : Below w.heap.size w W) => hT.below hb)
  have HLV := Aside0.mk (fun (W : World) (hT : TabW W) => live21_c W hT)
  have HF := Aside0.mk (fun W => few21_c p hmx 9 W)
  have HWL := Aside0.mk (fun W => rwell_c p hmx W)
  have HQ := Aside0.mk (fun (p : Pos) (h9 : wellS p = 0 → nP p.cells ≤ 9) (W : World) (hT : TabW W) => qof_c p h9 W hT)
  have HW := Aside0.mk (fun (p : Pos) (h9 : wellS p = 0 → nP p.cells ≤ 9) (W : World) (hT : TabW W) => qwin_c p h9 low high W hT)
  have hu := Tryz.underlying23
  have HP0 := Aside0.mk (LmAt.new w p)
  unfold Few21 at HF
  clear hmx hT
  go_enter Tryz.func4, Tryz.ntmps4
  go_upto_region 1 with fail
  generalize w.alloc (.cells #[.string p.cells, .int .i64 p.side, .int .i64 p.clock, .int .i64 p.full] 23) = W1 at *
  obtain ⟨c0, c1, c2, c3⟩ := HP0.out.box
  go_wp2_with fail
  refine (HF.out _).mono ?_
  rintro e w1 ⟨b, rfl, hf, hb⟩
  have HP1 := Aside0.mk (HP0.out.below hb)
  have HFB := Aside0.mk hf
  clear hb hf c0 c1 c2 c3 HP0
  cases b
  case false =>
    go_wp2_with (go_at_call 7; refine (HLV.out _ (HT.out _ HP1.out.bel)).mono ?_; rintro e w2 ⟨rfl, hb⟩; have HW2 := Aside0.mk (HP1.out.below hb).bel; clear hb)
    go_ret
    exact ⟨rfl, HW2.out⟩
  obtain ⟨c0, c1, c2, c3⟩ := HP1.out.box
  by_cases hw : wellS p = 0
  case neg =>
    have h2 : (wellS p != 0) = true := by simpa using hw
    clear hw HFB HQ HW HF
    generalize wellS p = r at *
    go_wp2_with fail
    refine (HWL.out _).mono ?_
    rintro e w2 ⟨rfl, hb⟩
    have HP2 := Aside0.mk (HP1.out.below hb)
    clear hb c0 c1 c2 c3
    go_wp2_with (go_at_call 7; refine (HLV.out _ (HT.out _ HP2.out.bel)).mono ?_; rintro e w2 ⟨rfl, hb⟩; have HW2 := Aside0.mk (HP2.out.below hb).bel; clear hb)
    go_ret
    exact ⟨rfl, HW2.out⟩
  obtain ⟨hbd, hsd, _⟩ := argOk_yes (checkP_parts (well_check hw)).1
  have h9 : nP p.cells ≤ 9 := by have := HFB.out rfl hw; omega
  have HPT := Aside0.mk (fun W => pturn_c p hbd hsd W)
  have HQ1 := Aside0.mk (fun (W : World) (hT : TabW W) => HQ.out p (fun _ => h9) W hT)
  have HW1 := Aside0.mk (fun (W : World) (hT : TabW W) => HW.out p (fun _ => h9) W hT)
  have HQ2 := fun (W : World) (hT : TabW W) => HQ.out (turnP p) (fun _ => by show nP (turnS p.cells) ≤ 9; rw [nP_turn hbd]; exact h9) W hT
  have HW2 := fun (W : World) (hT : TabW W) => HW.out (turnP p) (fun _ => by show nP (turnS p.cells) ≤ 9; rw [nP_turn hbd]; exact h9) W hT
  simp only [ofQ_turn hw] at HQ2
  simp only [winQ_turn hw] at HW2
  have HQ2 := Aside0.mk HQ2
  have HW2 := Aside0.mk HW2
  rw [hw] at HWL
  clear hw hbd hsd h9 HQ HW HFB HF
  generalize ofQ p = qv at *
  generalize winQ p low high = wv at *
  generalize turnP p = q at *
  go_wp2_with fail
  refine (HWL.out _).mono ?_
  rintro e w2 ⟨rfl, hb⟩
  have HP2 := Aside0.mk (HP1.out.below hb)
  clear hb c0 c1 c2 c3 HP1
  obtain ⟨c0, c1, c2, c3⟩ := HP2.out.box
  go_wp2_with fail
  refine (HPT.out _).mono ?_
  rintro e w3 ⟨rfl, hb⟩
  have HX := Aside0.mk (show TqAt w _ p q w3.heap.size from ⟨(HP2.out.below hb).below (below_alloc (Below.refl _ _) (.cells #[.string q.cells, .int .i64 q.side, .int .i64 q.clock, .int .i64 q.full] 23)), BoxP.new w3 q⟩)
  clear hb c0 c1 c2 c3 HP2
  go_upto_region 4 with fail
  generalize w3.heap.size = qb at *
  generalize (w3.alloc (.cells #[.string q.cells, .int .i64 q.side, .int .i64 q.clock, .int .i64 q.full] 23)) = w4 at *
  have c0 := fun z : BelowOf w4 => z.cell HX.out.lm.box.c0
  have c1 := fun z : BelowOf w4 => z.cell HX.out.lm.box.c1
  have c2 := fun z : BelowOf w4 => z.cell HX.out.lm.box.c2
  have c3 := fun z : BelowOf w4 => z.cell HX.out.lm.box.c3
  have d0 := fun z : BelowOf w4 => z.cell HX.out.qx.c0
  have d1 := fun z : BelowOf w4 => z.cell HX.out.qx.c1
  have d2 := fun z : BelowOf w4 => z.cell HX.out.qx.c2
  have d3 := fun z : BelowOf w4 => z.cell HX.out.qx.c3
  go_wp2_with fail
  refine wp_region_below (by kernel_rfl) ?_
  repeat (quiet_step (first
    | (go_at_call 8; first | (with_reducible exact BelowOf.calls (HQ1.out _ (HT.out _ (below_go HX.out.lm.bel (BelowOf.bel _))))) | (with_reducible exact BelowOf.calls (HQ2.out _ (HT.out _ (below_go HX.out.lm.bel (BelowOf.bel _))))))
    | (go_at_call 10; first | (with_reducible exact BelowOf.calls (HW1.out _ (HT.out _ (below_go HX.out.lm.bel (BelowOf.bel _))))) | (with_reducible exact BelowOf.calls (HW2.out _ (HT.out _ (below_go HX.out.lm.bel (BelowOf.bel _))))))
    | (go_at_call 7; exact BelowOf.calls (HLV.out _ (HT.out _ (below_go HX.out.lm.bel (BelowOf.bel _)))))))
  refine wpQuiet_nil ?_
  rintro w5 ⟨⟨_, hb⟩, rfl⟩
  have HX5 := Aside0.mk (HX.out.below hb)
  clear hb c0 c1 c2 c3 d0 d1 d2 d3 HX
  go_wp2_with fail
  go_ret
  exact ⟨rfl, HX5.out.lm.bel⟩
set_option maxRecDepth 100000 in
set_option maxHeartbeats 4000000 in
theorem quietWindowLaw (w : World) (p : Pos) (low high : Int) (hmx : p.cells.size ≤ maxLen) (hT : TabW w) : Calls Tryz.prog 5 #[posV p, .int .i64 low, .int .i64 high] w fun e w' => e = .returned (.bool true) ∧ Below w.heap.size w w' := by
  have HT := Aside0.mk (fun (W : World) (hb : Below w.heap.size w W) => hT.below hb)
  have HLV := Aside0.mk (fun (W : World) (hT : TabW W) => live21_c W hT)
  have HF := Aside0.mk (fun W => few21_c p hmx 9 W)
  have HW := Aside0.mk (fun (low high : Int) (h9 : wellS p = 0 → nP p.cells ≤ 9) (W : World) (hT : TabW W) => qwin_c p h9 low high W hT)
  have hu := Tryz.underlying23
  have HP0 := Aside0.mk (LmAt.new w p)
  unfold Few21 at HF
  have HWW := Aside0.mk (fun (h : low < high) => win_wide (p := p) h)
  clear hmx hT
  go_enter Tryz.func5, Tryz.ntmps5
  go_upto_region 1 with fail
  generalize w.alloc (.cells #[.string p.cells, .int .i64 p.side, .int .i64 p.clock, .int .i64 p.full] 23) = W1 at *
  obtain ⟨c0, c1, c2, c3⟩ := HP0.out.box
  go_wp2_with fail
  refine (HF.out _).mono ?_
  rintro e w1 ⟨b, rfl, hf, hb⟩
  have HP1 := Aside0.mk (HP0.out.below hb)
  have HFB := Aside0.mk hf
  clear hb hf c0 c1 c2 c3 HP0
  by_cases hgo : b = true ∧ -100000 ≤ low ∧ high ≤ 100000 ∧ low < high
  case neg =>
    rcases (show b = false ∨ (b = true ∧ low < -100000) ∨ (b = true ∧ ¬ low < -100000 ∧ 100000 < high) ∨ (b = true ∧ ¬ low < -100000 ∧ ¬ 100000 < high ∧ high ≤ low) by cases b; simp; simp at hgo ⊢; omega) with rfl | ⟨rfl, h1⟩ | ⟨rfl, h1, h2⟩ | ⟨rfl, h1, h2, h3⟩
    all_goals
      clear hgo
      go_wp2_with (go_at_call 7; refine (HLV.out _ (HT.out _ HP1.out.bel)).mono ?_; rintro e w2 ⟨rfl, hb⟩; have HW2 := Aside0.mk (HP1.out.below hb).bel; clear hb)
      go_ret
      exact ⟨rfl, HW2.out⟩
  obtain ⟨rfl, hl, hh, hlh⟩ := hgo
  have HW1 := Aside0.mk (fun (W : World) (hT : TabW W) => HW.out low high (fun h => by have := HFB.out rfl h; omega) W hT)
  have HW2 := Aside0.mk (fun (W : World) (hT : TabW W) => HW.out (low - 50) (high + 50) (fun h => by have := HFB.out rfl h; omega) W hT)
  obtain ⟨⟨k1, k2⟩, k3, k4, k5⟩ := HWW.out hlh
  clear HW HFB HF HWW
  generalize winQ p low high = v at *
  generalize winQ p (low - 50) (high + 50) = u at *
  have hn1 : ¬ low < -100000 := by omega
  have hn2 : ¬ 100000 < high := by omega
  have hn3 : ¬ high ≤ low := by omega
  have hn4 : ¬ v < low := by omega
  have hn5 : ¬ high < v := by omega
  have e1 : IntKind.i64.wrap (low - 50) = low - 50 := by rw [IntKind.wrap_i64]; omega
  have e2 : IntKind.i64.wrap (high + 50) = high + 50 := by rw [IntKind.wrap_i64]; omega
  have HK := Aside0.mk (And.intro k3 (And.intro k4 k5))
  have HB := Aside0.mk (And.intro (And.intro k1 k2) (And.intro hl (And.intro hh hlh)))
  clear k1 k2 k3 k4 k5 hl hh hlh
  obtain ⟨c0, c1, c2, c3⟩ := HP1.out.box
  go_wp2_with fail
  refine (HW1.out _ (HT.out _ HP1.out.bel)).mono ?_
  rintro e w2 ⟨rfl, hb⟩
  have HP2 := Aside0.mk (HP1.out.below hb)
  clear hb c0 c1 c2 c3 HP1
  obtain ⟨c0, c1, c2, c3⟩ := HP2.out.box
  go_wp2_with fail
  refine (HW2.out _ (HT.out _ HP2.out.bel)).mono ?_
  rintro e w3 ⟨rfl, hb⟩
  have HP3 := Aside0.mk (HP2.out.below hb)
  clear hb c0 c1 c2 c3 HP2
  rcases (show (v = low ∧ u ≤ low) ∨ (v = high ∧ high ≤ u) ∨ (low < v ∧ v < high ∧ u = v) by
    have := HB.out
    rcases (show v = low ∨ v = high ∨ (low < v ∧ v < high) by omega) with h | h | h
    · exact .inl ⟨h, HK.out.2.1 h⟩
    · exact .inr (.inl ⟨h, HK.out.2.2 h⟩)
    · exact .inr (.inr ⟨h.1, h.2, HK.out.1 h⟩)) with ⟨rfl, h1⟩ | ⟨rfl, h1⟩ | ⟨h1, h2, rfl⟩
  · have hne : (v != high) = true := by have := HB.out; simp; omega
    have hlt : v < high := by have := HB.out; omega
    go_wp2_with (go_at_call 7; refine (HLV.out _ (HT.out _ HP3.out.bel)).mono ?_; rintro e w4 ⟨rfl, hb⟩; have HW4 := Aside0.mk (HP3.out.below hb).bel; clear hb)
    go_ret
    exact ⟨rfl, HW4.out⟩
  · have hne : (v != low) = true := by have := HB.out; simp; omega
    have hlt : low < v := by have := HB.out; omega
    go_wp2_with (go_at_call 7; refine (HLV.out _ (HT.out _ HP3.out.bel)).mono ?_; rintro e w4 ⟨rfl, hb⟩; have HW4 := Aside0.mk (HP3.out.below hb).bel; clear hb)
    go_ret
    exact ⟨rfl, HW4.out⟩
  · go_wp2_with (go_at_call 7; refine (HLV.out _ (HT.out _ HP3.out.bel)).mono ?_; rintro e w4 ⟨rfl, hb⟩; have HW4 := Aside0.mk (HP3.out.below hb).bel; clear hb)
    go_ret
    exact ⟨rfl, HW4.out⟩
end Go.Proofs.YtdkghbbjillboaaGreatDoor.K
