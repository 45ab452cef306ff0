/- Walks and plain laws that several statements lean on, joined: no statement of the seat is proved here. -/
import Derived.Deep.RegionHeld3
import Derived.Test.YtcanbidenhcohaaB3

/- Walks of Go functions, one Lean function and one contract for each, written by a program of this session out of the translation. -/
namespace Go.Proofs.Ytcanbidenhcohaa.P
open Go.RowKit Go.Proofs.YtcanbidenhcohaaW.PrintWords Go.Proofs.YtcanbidenhcohaaW.PrintLast Go.Proofs.YtcanbidenhcohaaW.PrintMore
attribute [local go_sem] max2_int min2_int max_two min_two max_three min_three max_four min_four   -- for this text's walks alone
set_option linter.unusedVariables false
set_option linter.unusedSimpArgs false

/-! ### board_Rank: function 25 -/
def board_Rank.f (a0 : Int) : Option (Int) := (board_isSquare.f a0).bind fun t117 => (if t117 = true then (some (wrap64 (Int.tdiv a0 9))) else (some (-1)))
set_option maxHeartbeats 8000000 in
set_option maxRecDepth 100000 in
theorem board_Rank.calls (a0 : Int) (r : Int) (w : World) (h : board_Rank.f a0 = some r) :
    Calls Try.prog 25 #[.int .i64 a0] w fun e w' => e = .returned (.int .i64 r) ∧ Drawn0 w w' := by
  have H : ((board_isSquare.f a0).bind fun t117 => (if t117 = true then (some (wrap64 (Int.tdiv a0 9))) else (some (-1)))) = some r := h
  clear h
  replace H := Option.bind_eq_some_iff.mp H
  obtain ⟨t117, A20, H⟩ := H
  replace H : (if t117 = true then (some (wrap64 (Int.tdiv a0 9))) else (some (-1))) = some r := H
  have A2 := Aside0.mk A20
  clear A20
  by_cases c3 : t117 = true
  · subst c3
    have H1 : (some (wrap64 (Int.tdiv a0 9))) = some r := by rw [if_pos rfl] at H; exact H
    clear H
    have H := H1
    clear H1
    obtain rfl := Option.some.inj H
    go_enter Try.func25, Try.ntmps25
    go_wp2_with (first | ((with_reducible refine gate_callee (f := 55) rfl ?_); refine goesL_ (some 4) rfl rfl Try.func55 (by kernel_rfl) rfl #[.int .i64 a0] rfl (by (try simp only [List.map_toArray, List.map_cons, List.map_nil]); first | done | rfl | (simp only [List.length_drop, List.length_take]; rfl)) ?_; (with_reducible refine (board_isSquare.calls a0 true _ A2.out).mono ?_); rintro e w' ⟨rfl, ⟨nd, rfl⟩⟩; refine ⟨_, rfl, ?_⟩))
    go_ret
    exact ⟨by first | rfl | (simp; done) | (simp [*]; done), by repeat (first | exact Drawn0.refl _ | apply Drawn0.step)⟩
  · replace c3 := Bool.eq_false_iff.mpr c3
    subst c3
    have H1 : (some (-1)) = some r := by rw [if_neg (show ¬ (false = true) by decide)] at H; exact H
    clear H
    have H := H1
    clear H1
    obtain rfl := Option.some.inj H
    go_enter Try.func25, Try.ntmps25
    go_wp2_with (first | ((with_reducible refine gate_callee (f := 55) rfl ?_); refine goesL_ (some 4) rfl rfl Try.func55 (by kernel_rfl) rfl #[.int .i64 a0] rfl (by (try simp only [List.map_toArray, List.map_cons, List.map_nil]); first | done | rfl | (simp only [List.length_drop, List.length_take]; rfl)) ?_; (with_reducible refine (board_isSquare.calls a0 false _ A2.out).mono ?_); rintro e w' ⟨rfl, ⟨nd, rfl⟩⟩; refine ⟨_, rfl, ?_⟩))
    go_ret
    exact ⟨by first | rfl | (simp; done) | (simp [*]; done), by repeat (first | exact Drawn0.refl _ | apply Drawn0.step)⟩

/-! ### board_File: function 27 -/
def board_File.f (a0 : Int) : Option (Int) := (board_isSquare.f a0).bind fun t118 => (if t118 = true then (some (Int.tmod a0 9)) else (some (-1)))
set_option maxHeartbeats 8000000 in
set_option maxRecDepth 100000 in
theorem board_File.calls (a0 : Int) (r : Int) (w : World) (h : board_File.f a0 = some r) :
    Calls Try.prog 27 #[.int .i64 a0] w fun e w' => e = .returned (.int .i64 r) ∧ Drawn0 w w' := by
  have H : ((board_isSquare.f a0).bind fun t118 => (if t118 = true then (some (Int.tmod a0 9)) else (some (-1)))) = some r := h
  clear h
  replace H := Option.bind_eq_some_iff.mp H
  obtain ⟨t118, A20, H⟩ := H
  replace H : (if t118 = true then (some (Int.tmod a0 9)) else (some (-1))) = some r := H
  have A2 := Aside0.mk A20
  clear A20
  by_cases c3 : t118 = true
  · subst c3
    have H1 : (some (Int.tmod a0 9)) = some r := by rw [if_pos rfl] at H; exact H
    clear H
    have H := H1
    clear H1
    obtain rfl := Option.some.inj H
    go_enter Try.func27, Try.ntmps27
    go_wp2_with (first | ((with_reducible refine gate_callee (f := 55) rfl ?_); refine goesL_ (some 4) rfl rfl Try.func55 (by kernel_rfl) rfl #[.int .i64 a0] rfl (by (try simp only [List.map_toArray, List.map_cons, List.map_nil]); first | done | rfl | (simp only [List.length_drop, List.length_take]; rfl)) ?_; (with_reducible refine (board_isSquare.calls a0 true _ A2.out).mono ?_); rintro e w' ⟨rfl, ⟨nd, rfl⟩⟩; refine ⟨_, rfl, ?_⟩))
    go_ret
    exact ⟨by first | rfl | (simp; done) | (simp [*]; done), by repeat (first | exact Drawn0.refl _ | apply Drawn0.step)⟩
  · replace c3 := Bool.eq_false_iff.mpr c3
    subst c3
    have H1 : (some (-1)) = some r := by rw [if_neg (show ¬ (false = true) by decide)] at H; exact H
    clear H
    have H := H1
    clear H1
    obtain rfl := Option.some.inj H
    go_enter Try.func27, Try.ntmps27
    go_wp2_with (first | ((with_reducible refine gate_callee (f := 55) rfl ?_); refine goesL_ (some 4) rfl rfl Try.func55 (by kernel_rfl) rfl #[.int .i64 a0] rfl (by (try simp only [List.map_toArray, List.map_cons, List.map_nil]); first | done | rfl | (simp only [List.length_drop, List.length_take]; rfl)) ?_; (with_reducible refine (board_isSquare.calls a0 false _ A2.out).mono ?_); rintro e w' ⟨rfl, ⟨nd, rfl⟩⟩; refine ⟨_, rfl, ?_⟩))
    go_ret
    exact ⟨by first | rfl | (simp; done) | (simp [*]; done), by repeat (first | exact Drawn0.refl _ | apply Drawn0.step)⟩

/-! ### board_Square: function 114 -/
def board_Square.f (a0 : Int) (a1 : Int) : Option (Int) := if a0 < 0 then (some (-1)) else (if a0 ≥ 9 then (some (-1)) else (if a1 < 0 then (some (-1)) else (if a1 ≥ 10 then (some (-1)) else (some (wrap64 ((wrap64 (9 * a1)) + a0))))))
set_option maxHeartbeats 8000000 in
set_option maxRecDepth 100000 in
theorem board_Square.calls (a0 : Int) (a1 : Int) (r : Int) (w : World) (h : board_Square.f a0 a1 = some r) :
    Calls Try.prog 114 #[.int .i64 a0, .int .i64 a1] w fun e w' => e = .returned (.int .i64 r) ∧ Drawn0 w w' := by
  have H : (if a0 < 0 then (some (-1)) else (if a0 ≥ 9 then (some (-1)) else (if a1 < 0 then (some (-1)) else (if a1 ≥ 10 then (some (-1)) else (some (wrap64 ((wrap64 (9 * a1)) + a0))))))) = some r := h
  clear h
  by_cases c3 : a0 < 0
  · rw [if_pos c3] at H
    have c3b0 : decide (a0 < 0) = true := decide_eq_true c3
    clear c3
    obtain rfl := Option.some.inj H
    go_enter Try.func114, Try.ntmps114
    go_wp2
    go_ret
    exact ⟨by first | rfl | (simp; done) | (simp [*]; done), by repeat (first | exact Drawn0.refl _ | apply Drawn0.step)⟩
  · rw [if_neg c3] at H
    have c3b0 : decide (a0 < 0) = false := decide_eq_false c3
    clear c3
    by_cases c4 : a0 ≥ 9
    · rw [if_pos c4] at H
      have c4b0 : decide (9 ≤ a0) = true := decide_eq_true c4
      clear c4
      obtain rfl := Option.some.inj H
      go_enter Try.func114, Try.ntmps114
      go_wp2
      go_ret
      exact ⟨by first | rfl | (simp; done) | (simp [*]; done), by repeat (first | exact Drawn0.refl _ | apply Drawn0.step)⟩
    · rw [if_neg c4] at H
      have c4b0 : decide (9 ≤ a0) = false := decide_eq_false c4
      clear c4
      by_cases c5 : a1 < 0
      · rw [if_pos c5] at H
        have c5b0 : decide (a1 < 0) = true := decide_eq_true c5
        clear c5
        obtain rfl := Option.some.inj H
        go_enter Try.func114, Try.ntmps114
        go_wp2
        go_ret
        exact ⟨by first | rfl | (simp; done) | (simp [*]; done), by repeat (first | exact Drawn0.refl _ | apply Drawn0.step)⟩
      · rw [if_neg c5] at H
        have c5b0 : decide (a1 < 0) = false := decide_eq_false c5
        clear c5
        by_cases c6 : a1 ≥ 10
        · rw [if_pos c6] at H
          have c6b0 : decide (10 ≤ a1) = true := decide_eq_true c6
          clear c6
          obtain rfl := Option.some.inj H
          go_enter Try.func114, Try.ntmps114
          go_wp2
          go_ret
          exact ⟨by first | rfl | (simp; done) | (simp [*]; done), by repeat (first | exact Drawn0.refl _ | apply Drawn0.step)⟩
        · rw [if_neg c6] at H
          have c6b0 : decide (10 ≤ a1) = false := decide_eq_false c6
          clear c6
          obtain rfl := Option.some.inj H
          go_enter Try.func114, Try.ntmps114
          go_wp2
          go_ret
          exact ⟨by first | rfl | (simp; done) | (simp [*]; done), by repeat (first | exact Drawn0.refl _ | apply Drawn0.step)⟩

/-! ### reach_view_step: function 94 -/
def reach_view_step.f (a0_0 : ByteArray) (a0_1 : Int) (a0_2 : Int) (a1 : Int) (a2 : Int) : Option (Int) := (board_File.f a0_1).bind fun t120 => ((board_Rank.f a0_1).bind fun t121 => ((board_Square.f (wrap64 (t120 + a1)) (wrap64 (t121 + a2))).bind fun t122 => (some t122)))
set_option maxHeartbeats 8000000 in
set_option maxRecDepth 100000 in
theorem reach_view_step.calls (a0_0 : ByteArray) (a0_1 : Int) (a0_2 : Int) (a1 : Int) (a2 : Int) (r : Int) (w : World) (h : reach_view_step.f a0_0 a0_1 a0_2 a1 a2 = some r) :
    Calls Try.prog 94 #[.agg #[.string a0_0, .int .i64 a0_1, .int .u8 a0_2], .int .i64 a1, .int .i64 a2] w fun e w' => e = .returned (.int .i64 r) ∧ Below w.heap.size w w' := by
  have hu53 := Try.underlying53
  have HB := Aside0.mk (Below.refl w.heap.size w)
  have H : ((board_File.f a0_1).bind fun t120 => ((board_Rank.f a0_1).bind fun t121 => ((board_Square.f (wrap64 (t120 + a1)) (wrap64 (t121 + a2))).bind fun t122 => (some t122)))) = some r := h
  clear h
  replace H := Option.bind_eq_some_iff.mp H
  obtain ⟨t120, A40, H⟩ := H
  replace H : ((board_Rank.f a0_1).bind fun t121 => ((board_Square.f (wrap64 (t120 + a1)) (wrap64 (t121 + a2))).bind fun t122 => (some t122))) = some r := H
  have A4 := Aside0.mk A40
  clear A40
  replace H := Option.bind_eq_some_iff.mp H
  obtain ⟨t121, A50, H⟩ := H
  replace H : ((board_Square.f (wrap64 (t120 + a1)) (wrap64 (t121 + a2))).bind fun t122 => (some t122)) = some r := H
  have A5 := Aside0.mk A50
  clear A50
  replace H := Option.bind_eq_some_iff.mp H
  obtain ⟨t122, A60, H⟩ := H
  replace H : (some t122) = some r := H
  have A6 := Aside0.mk A60
  clear A60
  obtain rfl := Option.some.inj H
  go_enter Try.func94, Try.ntmps94
  go_wp2_with (first | ((with_reducible refine gate_dst (N := 3) rfl ?_); refine box_event ?hg (N := 3) ?hd (cs := #[.string a0_0, .int .i64 a0_1, .int .u8 a0_2]) (t := 53) ?hr ?_; (case hd => rfl); (case hg => rfl); (case hr => first | (go_simp; done) | (go_simp; rfl)); intro gb119 hg w7 hbox hb; have n0_ := Aside0.mk (below_step (by repeat (first | (with_reducible first | exact HB.out | apply below_alloc | apply pw_below_drewN | apply below_drew1) | exact HB.out)) hb); have n1_ := Aside0.mk (hbox); have n2_ := Aside0.mk ((by rw [hg]; exact (below_size (by repeat (first | (with_reducible first | exact HB.out | apply below_alloc | apply pw_below_drewN | apply below_drew1) | exact HB.out))) : w.heap.size ≤ gb119)); have n3_ := Aside0.mk ((by rw [hg]; exact (below_size (by repeat (first | (with_reducible first | exact HB.out | apply below_alloc | apply pw_below_drewN | apply below_drew1) | exact HB.out))) : w.heap.size ≤ gb119)); clear HB; have HB := n0_; have BK119 := n1_; have GW119 := n2_; have GE119 := n3_; clear n0_ n1_ n2_ n3_; clear hb hbox hg; have hcz8_0 : w7.cell? ⟨gb119, 0, none⟩ = some (.string a0_0) := (blk_cell BK119.out 0).trans rfl; have hcz8_1 : w7.cell? ⟨gb119, 1, none⟩ = some (.int .i64 a0_1) := (blk_cell BK119.out 1).trans rfl; have hcz8_2 : w7.cell? ⟨gb119, 2, none⟩ = some (.int .u8 a0_2) := (blk_cell BK119.out 2).trans rfl; have hfz8_0 := blk_frozen BK119.out 0; have hfz8_1 := blk_frozen BK119.out 1; have hfz8_2 := blk_frozen BK119.out 2) | (go_at_call 27; (with_reducible refine (board_File.calls a0_1 t120 _ A4.out).mono ?_); rintro e w' ⟨rfl, ⟨nd, rfl⟩⟩; (try first | exact ⟨rfl, _, World.drewN_drewN _ _ _⟩ | exact ⟨rfl, _, Eq.trans (World.drewN_drewN _ _ _) (congrArg (World.drewN _) (Nat.add_assoc _ _ _))⟩)) | (go_at_call 25; (with_reducible refine (board_Rank.calls a0_1 t121 _ A5.out).mono ?_); rintro e w' ⟨rfl, ⟨nd, rfl⟩⟩; (try first | exact ⟨rfl, _, World.drewN_drewN _ _ _⟩ | exact ⟨rfl, _, Eq.trans (World.drewN_drewN _ _ _) (congrArg (World.drewN _) (Nat.add_assoc _ _ _))⟩)) | (go_at_call 114; (with_reducible refine (board_Square.calls (wrap64 (t120 + a1)) (wrap64 (t121 + a2)) t122 _ A6.out).mono ?_); rintro e w' ⟨rfl, ⟨nd, rfl⟩⟩; (try first | exact ⟨rfl, _, World.drewN_drewN _ _ _⟩ | exact ⟨rfl, _, Eq.trans (World.drewN_drewN _ _ _) (congrArg (World.drewN _) (Nat.add_assoc _ _ _))⟩)))
  repeat (go_quiet (first | ((with_reducible refine gate_dst (N := 3) rfl ?_); refine box_event ?hg (N := 3) ?hd (cs := #[.string a0_0, .int .i64 a0_1, .int .u8 a0_2]) (t := 53) ?hr ?_; (case hd => rfl); (case hg => rfl); (case hr => first | (go_simp; done) | (go_simp; rfl)); intro gb119 hg w7 hbox hb; have n0_ := Aside0.mk (below_step (by repeat (first | (with_reducible first | exact HB.out | apply below_alloc | apply pw_below_drewN | apply below_drew1) | exact HB.out)) hb); have n1_ := Aside0.mk (hbox); have n2_ := Aside0.mk ((by rw [hg]; exact (below_size (by repeat (first | (with_reducible first | exact HB.out | apply below_alloc | apply pw_below_drewN | apply below_drew1) | exact HB.out))) : w.heap.size ≤ gb119)); have n3_ := Aside0.mk ((by rw [hg]; exact (below_size (by repeat (first | (with_reducible first | exact HB.out | apply below_alloc | apply pw_below_drewN | apply below_drew1) | exact HB.out))) : w.heap.size ≤ gb119)); clear HB; have HB := n0_; have BK119 := n1_; have GW119 := n2_; have GE119 := n3_; clear n0_ n1_ n2_ n3_; clear hb hbox hg; have hcz8_0 : w7.cell? ⟨gb119, 0, none⟩ = some (.string a0_0) := (blk_cell BK119.out 0).trans rfl; have hcz8_1 : w7.cell? ⟨gb119, 1, none⟩ = some (.int .i64 a0_1) := (blk_cell BK119.out 1).trans rfl; have hcz8_2 : w7.cell? ⟨gb119, 2, none⟩ = some (.int .u8 a0_2) := (blk_cell BK119.out 2).trans rfl; have hfz8_0 := blk_frozen BK119.out 0; have hfz8_1 := blk_frozen BK119.out 1; have hfz8_2 := blk_frozen BK119.out 2) | (go_at_call 27; (with_reducible refine (board_File.calls a0_1 t120 _ A4.out).mono ?_); rintro e w' ⟨rfl, ⟨nd, rfl⟩⟩; (try first | exact ⟨rfl, _, World.drewN_drewN _ _ _⟩ | exact ⟨rfl, _, Eq.trans (World.drewN_drewN _ _ _) (congrArg (World.drewN _) (Nat.add_assoc _ _ _))⟩)) | (go_at_call 25; (with_reducible refine (board_Rank.calls a0_1 t121 _ A5.out).mono ?_); rintro e w' ⟨rfl, ⟨nd, rfl⟩⟩; (try first | exact ⟨rfl, _, World.drewN_drewN _ _ _⟩ | exact ⟨rfl, _, Eq.trans (World.drewN_drewN _ _ _) (congrArg (World.drewN _) (Nat.add_assoc _ _ _))⟩)) | (go_at_call 114; (with_reducible refine (board_Square.calls (wrap64 (t120 + a1)) (wrap64 (t121 + a2)) t122 _ A6.out).mono ?_); rintro e w' ⟨rfl, ⟨nd, rfl⟩⟩; (try first | exact ⟨rfl, _, World.drewN_drewN _ _ _⟩ | exact ⟨rfl, _, Eq.trans (World.drewN_drewN _ _ _) (congrArg (World.drewN _) (Nat.add_assoc _ _ _))⟩))); try go_wp2_with (first | ((with_reducible refine gate_dst (N := 3) rfl ?_); refine box_event ?hg (N := 3) ?hd (cs := #[.string a0_0, .int .i64 a0_1, .int .u8 a0_2]) (t := 53) ?hr ?_; (case hd => rfl); (case hg => rfl); (case hr => first | (go_simp; done) | (go_simp; rfl)); intro gb119 hg w7 hbox hb; have n0_ := Aside0.mk (below_step (by repeat (first | (with_reducible first | exact HB.out | apply below_alloc | apply pw_below_drewN | apply below_drew1) | exact HB.out)) hb); have n1_ := Aside0.mk (hbox); have n2_ := Aside0.mk ((by rw [hg]; exact (below_size (by repeat (first | (with_reducible first | exact HB.out | apply below_alloc | apply pw_below_drewN | apply below_drew1) | exact HB.out))) : w.heap.size ≤ gb119)); have n3_ := Aside0.mk ((by rw [hg]; exact (below_size (by repeat (first | (with_reducible first | exact HB.out | apply below_alloc | apply pw_below_drewN | apply below_drew1) | exact HB.out))) : w.heap.size ≤ gb119)); clear HB; have HB := n0_; have BK119 := n1_; have GW119 := n2_; have GE119 := n3_; clear n0_ n1_ n2_ n3_; clear hb hbox hg; have hcz8_0 : w7.cell? ⟨gb119, 0, none⟩ = some (.string a0_0) := (blk_cell BK119.out 0).trans rfl; have hcz8_1 : w7.cell? ⟨gb119, 1, none⟩ = some (.int .i64 a0_1) := (blk_cell BK119.out 1).trans rfl; have hcz8_2 : w7.cell? ⟨gb119, 2, none⟩ = some (.int .u8 a0_2) := (blk_cell BK119.out 2).trans rfl; have hfz8_0 := blk_frozen BK119.out 0; have hfz8_1 := blk_frozen BK119.out 1; have hfz8_2 := blk_frozen BK119.out 2) | (go_at_call 27; (with_reducible refine (board_File.calls a0_1 t120 _ A4.out).mono ?_); rintro e w' ⟨rfl, ⟨nd, rfl⟩⟩; (try first | exact ⟨rfl, _, World.drewN_drewN _ _ _⟩ | exact ⟨rfl, _, Eq.trans (World.drewN_drewN _ _ _) (congrArg (World.drewN _) (Nat.add_assoc _ _ _))⟩)) | (go_at_call 25; (with_reducible refine (board_Rank.calls a0_1 t121 _ A5.out).mono ?_); rintro e w' ⟨rfl, ⟨nd, rfl⟩⟩; (try first | exact ⟨rfl, _, World.drewN_drewN _ _ _⟩ | exact ⟨rfl, _, Eq.trans (World.drewN_drewN _ _ _) (congrArg (World.drewN _) (Nat.add_assoc _ _ _))⟩)) | (go_at_call 114; (with_reducible refine (board_Square.calls (wrap64 (t120 + a1)) (wrap64 (t121 + a2)) t122 _ A6.out).mono ?_); rintro e w' ⟨rfl, ⟨nd, rfl⟩⟩; (try first | exact ⟨rfl, _, World.drewN_drewN _ _ _⟩ | exact ⟨rfl, _, Eq.trans (World.drewN_drewN _ _ _) (congrArg (World.drewN _) (Nat.add_assoc _ _ _))⟩))))
  go_ret
  exact ⟨by first | rfl | (simp [errW_none, errW_some] <;> rfl) | (simp [*, errW_none, errW_some] <;> rfl), by repeat (first | (with_reducible first | exact HB.out | apply below_alloc | apply pw_below_drewN | apply below_drew1 | refine below_set ?_ GE119.out) | exact HB.out)⟩

/-! ### reach_view_four: function 91 -/
def reach_view_four.f (a0_0 : ByteArray) (a0_1 : Int) (a0_2 : Int) (a1 : Int) (a2 : Int) : Option (List Int) := (reach_view_step.f a0_0 a0_1 a0_2 a1 a2).bind fun t124 => ((reach_view_step.f a0_0 a0_1 a0_2 (wrap64 (-a1)) a2).bind fun t125 => ((reach_view_step.f a0_0 a0_1 a0_2 a1 (wrap64 (-a2))).bind fun t126 => ((reach_view_step.f a0_0 a0_1 a0_2 (wrap64 (-a1)) (wrap64 (-a2))).bind fun t127 => (some (([t124, t125, t126, t127] : List Int))))))
def reach_view_four.T1 : Bool × List (List Nat × List Nat) := (true, [([], []), ([], []), ([], []), ([0, 1, 2], [0, 1, 2]), ([], []), ([], []), ([5], [5]), ([], []), ([4, 6, 7, 3], [4, 6, 7]), ([], []), ([], []), ([], []), ([11], [11]), ([9, 10, 12, 8], [9, 10, 12]), ([], []), ([], []), ([15], [15]), ([], []), ([17], [17]), ([14, 16, 18, 13], [14, 16, 18]), ([3, 8, 13, 19], [3, 8, 13, 19]), ([20, 19, 0, 1, 2, 3, 4, 5, 6, 7, 8, 9, 10, 11, 12, 13, 14, 15, 16, 17, 18, 19, 20], [20])])
def reach_view_four.B1 : List Nat := [0, 0, 0, 7, 0, 0, 32, 0, 255, 0, 0, 0, 2048, 8191, 0, 0, 32768, 0, 131072, 524287, 1048575, 2097151]
theorem reach_view_four.tab1 : rtab .any (opsOf Try.f91 1) = reach_view_four.T1 := by kernel_rfl
theorem reach_view_four.bits1 : waitsOk reach_view_four.T1.2 reach_view_four.B1 = true := by kernel_rfl
set_option maxHeartbeats 8000000 in
set_option maxRecDepth 100000 in
theorem reach_view_four.calls (a0_0 : ByteArray) (a0_1 : Int) (a0_2 : Int) (a1 : Int) (a2 : Int) (r : List Int) (w : World) (h : reach_view_four.f a0_0 a0_1 a0_2 a1 a2 = some r) :
    Calls Try.prog 91 #[.agg #[.string a0_0, .int .i64 a0_1, .int .u8 a0_2], .int .i64 a1, .int .i64 a2] w fun e w' => ∃ v0_ : Value, e = .returned (v0_) ∧ Kd.R (Kd.int .i64) 3 w' w.heap.size (fun _ => True) v0_ r ∧ Below w.heap.size w w' := by
  have hu53 := Try.underlying53
  have HB := Aside0.mk (Below.refl w.heap.size w)
  have H : ((reach_view_step.f a0_0 a0_1 a0_2 a1 a2).bind fun t124 => ((reach_view_step.f a0_0 a0_1 a0_2 (wrap64 (-a1)) a2).bind fun t125 => ((reach_view_step.f a0_0 a0_1 a0_2 a1 (wrap64 (-a2))).bind fun t126 => ((reach_view_step.f a0_0 a0_1 a0_2 (wrap64 (-a1)) (wrap64 (-a2))).bind fun t127 => (some (([t124, t125, t126, t127] : List Int))))))) = some r := h
  clear h
  replace H := Option.bind_eq_some_iff.mp H
  obtain ⟨t124, A40, H⟩ := H
  replace H : ((reach_view_step.f a0_0 a0_1 a0_2 (wrap64 (-a1)) a2).bind fun t125 => ((reach_view_step.f a0_0 a0_1 a0_2 a1 (wrap64 (-a2))).bind fun t126 => ((reach_view_step.f a0_0 a0_1 a0_2 (wrap64 (-a1)) (wrap64 (-a2))).bind fun t127 => (some (([t124, t125, t126, t127] : List Int)))))) = some r := H
  have A4 := Aside0.mk A40
  clear A40
  replace H := Option.bind_eq_some_iff.mp H
  obtain ⟨t125, A50, H⟩ := H
  replace H : ((reach_view_step.f a0_0 a0_1 a0_2 a1 (wrap64 (-a2))).bind fun t126 => ((reach_view_step.f a0_0 a0_1 a0_2 (wrap64 (-a1)) (wrap64 (-a2))).bind fun t127 => (some (([t124, t125, t126, t127] : List Int))))) = some r := H
  have A5 := Aside0.mk A50
  clear A50
  replace H := Option.bind_eq_some_iff.mp H
  obtain ⟨t126, A60, H⟩ := H
  replace H : ((reach_view_step.f a0_0 a0_1 a0_2 (wrap64 (-a1)) (wrap64 (-a2))).bind fun t127 => (some (([t124, t125, t126, t127] : List Int)))) = some r := H
  have A6 := Aside0.mk A60
  clear A60
  replace H := Option.bind_eq_some_iff.mp H
  obtain ⟨t127, A70, H⟩ := H
  replace H : (some (([t124, t125, t126, t127] : List Int))) = some r := H
  have A7 := Aside0.mk A70
  clear A70
  obtain ⟨y128, hy128⟩ : ∃ y_ : List Int, y_ = (([t124, t125, t126, t127] : List Int)) := ⟨_, rfl⟩
  replace H : (some y128) = some r := by first | (rw [hy128]; with_reducible exact H) | (have H2_ := (Option.bind_some _ _).symm.trans H; rw [hy128]; with_reducible exact H2_) | (have H2_ := (Option.bind_some _ _).symm.trans H; with_reducible exact H2_) | with_reducible exact H | (rw [hy128]; exact H) | exact H
  have Ny128 := Aside0.mk hy128
  clear hy128
  obtain rfl := Option.some.inj H
  go_enter Try.func91, Try.ntmps91
  try go_wp2_with (first | ((with_reducible refine gate_dst (N := 3) rfl ?_); refine box_event ?hg (N := 3) ?hd (cs := #[.string a0_0, .int .i64 a0_1, .int .u8 a0_2]) (t := 53) ?hr ?_; (case hd => rfl); (case hg => rfl); (case hr => first | (go_simp; done) | (go_simp; rfl)); intro gb123 hg w8 hbox hb; have n0_ := Aside0.mk (below_step (by repeat (first | (with_reducible first | exact HB.out | apply below_alloc | apply pw_below_drewN | apply below_drew1) | exact HB.out)) hb); have n1_ := Aside0.mk (hbox); have n2_ := Aside0.mk ((by rw [hg]; exact (below_size (by repeat (first | (with_reducible first | exact HB.out | apply below_alloc | apply pw_below_drewN | apply below_drew1) | exact HB.out))) : w.heap.size ≤ gb123)); have n3_ := Aside0.mk ((by rw [hg]; exact (below_size (by repeat (first | (with_reducible first | exact HB.out | apply below_alloc | apply pw_below_drewN | apply below_drew1) | exact HB.out))) : w.heap.size ≤ gb123)); clear HB; have HB := n0_; have BK123 := n1_; have GW123 := n2_; have GE123 := n3_; clear n0_ n1_ n2_ n3_; clear hb hbox hg))
  have n0_ := Aside0.mk (blk_drew BK123.out)
  have n1_ := Aside0.mk (below_drew1 HB.out)
  clear BK123
  clear HB
  have BK123 := n0_
  have HB := n1_
  clear n0_ n1_
  refine start_ (n := 22) (S := fun w' => w'.cell? ⟨gb123, 0, none⟩ = some (.string a0_0) ∧ w'.cell? ⟨gb123, 1, none⟩ = some (.int .i64 a0_1) ∧ w'.cell? ⟨gb123, 2, none⟩ = some (.int .u8 a0_2)) (ds := []) #[false, false, false, false, false, false, false, false, false, false, false, false, false, false, false, false, false, false, false, false, false, false] (by kernel_rfl) rfl rfl ⟨(blk_cell BK123.out 0).trans rfl, (blk_cell BK123.out 1).trans rfl, (blk_cell BK123.out 2).trans rfl⟩ (fun hHeld => ?_); refine with_tabW reach_view_four.tab1 reach_view_four.bits1 (fun HT_ HW_ => ?_)
  generalize w8.drew = w9 at BK123 HB hHeld ⊢
  refine pure_ (i := 1) (N := some 8) (v := ?_) (a' := ?_) #[false, true, false, false, false, false, false, false, false, false, false, false, false, false, false, false, false, false, false, false, false, false] rfl rfl (any_of HT_.out (by kernel_rfl)) (fun _ _ _ h => h) (Or.inl ⟨by rfl, ?_⟩) ?_ ?_
  rotate_left
  · intro w'
    go_simp
    with_reducible rfl
  rotate_left
  · simp only [Act.put, List.setIfInBounds_toArray, List.set_cons_zero, List.set_cons_succ, i64_w, i32_w]
    rfl
  refine pure_ (i := 2) (N := some 9) (v := ?_) (a' := ?_) #[false, true, true, false, false, false, false, false, false, false, false, false, false, false, false, false, false, false, false, false, false, false] rfl rfl (any_of HT_.out (by kernel_rfl)) (fun _ _ _ h => h) (Or.inl ⟨by rfl, ?_⟩) ?_ ?_
  rotate_left
  · intro w'
    go_simp
    with_reducible rfl
  rotate_left
  · simp only [Act.put, List.setIfInBounds_toArray, List.set_cons_zero, List.set_cons_succ, i64_w, i32_w]
    rfl
  refine pure_ (i := 5) (N := some 12) (v := ?_) (a' := ?_) #[false, true, true, false, false, true, false, false, false, false, false, false, false, false, false, false, false, false, false, false, false, false] rfl rfl (any_of HT_.out (by kernel_rfl)) (fun _ _ _ h => h) (Or.inl ⟨by rfl, ?_⟩) ?_ ?_
  rotate_left
  · intro w'
    go_simp
    with_reducible rfl
  rotate_left
  · simp only [Act.put, List.setIfInBounds_toArray, List.set_cons_zero, List.set_cons_succ, i64_w, i32_w]
    rfl
  refine pure_ (i := 6) (N := some 13) (v := ?_) (a' := ?_) #[false, true, true, false, false, true, true, false, false, false, false, false, false, false, false, false, false, false, false, false, false, false] rfl rfl (any_of HT_.out (by kernel_rfl)) (fun _ _ _ h => h) (Or.inl ⟨by rfl, ?_⟩) ?_ ?_
  rotate_left
  · intro w'
    go_simp
    with_reducible rfl
  rotate_left
  · simp only [Act.put, List.setIfInBounds_toArray, List.set_cons_zero, List.set_cons_succ, i64_w, i32_w]
    rfl
  refine pure_ (i := 7) (N := some 14) (v := ?_) (a' := ?_) #[false, true, true, false, false, true, true, true, false, false, false, false, false, false, false, false, false, false, false, false, false, false] rfl rfl (any_of HT_.out (by kernel_rfl)) (fun _ _ _ h => h) (Or.inl ⟨by rfl, ?_⟩) ?_ ?_
  rotate_left
  · intro w'
    go_simp
    with_reducible rfl
  rotate_left
  · simp only [Act.put, List.setIfInBounds_toArray, List.set_cons_zero, List.set_cons_succ, i64_w, i32_w]
    rfl
  refine pure_ (i := 10) (N := some 17) (v := ?_) (a' := ?_) #[false, true, true, false, false, true, true, true, false, false, true, false, false, false, false, false, false, false, false, false, false, false] rfl rfl (any_of HT_.out (by kernel_rfl)) (fun _ _ _ h => h) (Or.inl ⟨by rfl, ?_⟩) ?_ ?_
  rotate_left
  · intro w'
    go_simp
    with_reducible rfl
  rotate_left
  · simp only [Act.put, List.setIfInBounds_toArray, List.set_cons_zero, List.set_cons_succ, i64_w, i32_w]
    rfl
  refine pure_ (i := 11) (N := some 18) (v := ?_) (a' := ?_) #[false, true, true, false, false, true, true, true, false, false, true, true, false, false, false, false, false, false, false, false, false, false] rfl rfl (any_of HT_.out (by kernel_rfl)) (fun _ _ _ h => h) (Or.inl ⟨by rfl, ?_⟩) ?_ ?_
  rotate_left
  · intro w'
    go_simp
    with_reducible rfl
  rotate_left
  · simp only [Act.put, List.setIfInBounds_toArray, List.set_cons_zero, List.set_cons_succ, i64_w, i32_w]
    rfl
  refine pure_ (i := 12) (N := some 19) (v := ?_) (a' := ?_) #[false, true, true, false, false, true, true, true, false, false, true, true, true, false, false, false, false, false, false, false, false, false] rfl rfl (any_of HT_.out (by kernel_rfl)) (fun _ _ _ h => h) (Or.inl ⟨by rfl, ?_⟩) ?_ ?_
  rotate_left
  · intro w'
    go_simp
    with_reducible rfl
  rotate_left
  · simp only [Act.put, List.setIfInBounds_toArray, List.set_cons_zero, List.set_cons_succ, i64_w, i32_w]
    rfl
  refine pure_ (i := 15) (N := some 22) (v := ?_) (a' := ?_) #[false, true, true, false, false, true, true, true, false, false, true, true, true, false, false, true, false, false, false, false, false, false] rfl rfl (any_of HT_.out (by kernel_rfl)) (fun _ _ _ h => h) (Or.inl ⟨by rfl, ?_⟩) ?_ ?_
  rotate_left
  · intro w'
    go_simp
    with_reducible rfl
  rotate_left
  · simp only [Act.put, List.setIfInBounds_toArray, List.set_cons_zero, List.set_cons_succ, i64_w, i32_w]
    rfl
  refine pure_ (i := 16) (N := some 23) (v := ?_) (a' := ?_) #[false, true, true, false, false, true, true, true, false, false, true, true, true, false, false, true, true, false, false, false, false, false] rfl rfl (any_of HT_.out (by kernel_rfl)) (fun _ _ _ h => h) (Or.inl ⟨by rfl, ?_⟩) ?_ ?_
  rotate_left
  · intro w'
    go_simp
    with_reducible rfl
  rotate_left
  · simp only [Act.put, List.setIfInBounds_toArray, List.set_cons_zero, List.set_cons_succ, i64_w, i32_w]
    rfl
  refine pure_ (i := 17) (N := some 24) (v := ?_) (a' := ?_) #[false, true, true, false, false, true, true, true, false, false, true, true, true, false, false, true, true, true, false, false, false, false] rfl rfl (any_of HT_.out (by kernel_rfl)) (fun _ _ _ h => h) (Or.inl ⟨by rfl, ?_⟩) ?_ ?_
  rotate_left
  · intro w'
    go_simp
    with_reducible rfl
  rotate_left
  · simp only [Act.put, List.setIfInBounds_toArray, List.set_cons_zero, List.set_cons_succ, i64_w, i32_w]
    rfl
  refine pure_ (i := 18) (N := some 25) (v := ?_) (a' := ?_) #[false, true, true, false, false, true, true, true, false, false, true, true, true, false, false, true, true, true, true, false, false, false] rfl rfl (any_of HT_.out (by kernel_rfl)) (fun _ _ _ h => h) (Or.inl ⟨by rfl, ?_⟩) ?_ ?_
  rotate_left
  · intro w'
    go_simp
    with_reducible rfl
  rotate_left
  · simp only [Act.put, List.setIfInBounds_toArray, List.set_cons_zero, List.set_cons_succ, i64_w, i32_w]
    rfl
  refine take_ (i := 0) (N := some 7) (v := ?_) (a' := ?_) #[true, true, true, false, false, true, true, true, false, false, true, true, true, false, false, true, true, true, true, false, false, false] rfl rfl (take_ofW HT_.out HW_.out (by kernel_rfl)) (fun _ _ _ h => h) (Or.inl ⟨by rfl, ?_⟩) hHeld ?_ ?_
  rotate_left
  · rintro w' ⟨s0, s1, s2⟩
    go_simp
    with_reducible rfl
  rotate_left
  · simp only [Act.put, List.setIfInBounds_toArray, List.set_cons_zero, List.set_cons_succ, i64_w, i32_w]
    rfl
  refine take_ (i := 4) (N := some 11) (v := ?_) (a' := ?_) #[true, true, true, false, true, true, true, true, false, false, true, true, true, false, false, true, true, true, true, false, false, false] rfl rfl (take_ofW HT_.out HW_.out (by kernel_rfl)) (fun _ _ _ h => h) (Or.inl ⟨by rfl, ?_⟩) hHeld ?_ ?_
  rotate_left
  · rintro w' ⟨s0, s1, s2⟩
    go_simp
    with_reducible rfl
  rotate_left
  · simp only [Act.put, List.setIfInBounds_toArray, List.set_cons_zero, List.set_cons_succ, i64_w, i32_w]
    rfl
  refine take_ (i := 9) (N := some 16) (v := ?_) (a' := ?_) #[true, true, true, false, true, true, true, true, false, true, true, true, true, false, false, true, true, true, true, false, false, false] rfl rfl (take_ofW HT_.out HW_.out (by kernel_rfl)) (fun _ _ _ h => h) (Or.inl ⟨by rfl, ?_⟩) hHeld ?_ ?_
  rotate_left
  · rintro w' ⟨s0, s1, s2⟩
    go_simp
    with_reducible rfl
  rotate_left
  · simp only [Act.put, List.setIfInBounds_toArray, List.set_cons_zero, List.set_cons_succ, i64_w, i32_w]
    rfl
  refine take_ (i := 14) (N := some 21) (v := ?_) (a' := ?_) #[true, true, true, false, true, true, true, true, false, true, true, true, true, false, true, true, true, true, true, false, false, false] rfl rfl (take_ofW HT_.out HW_.out (by kernel_rfl)) (fun _ _ _ h => h) (Or.inl ⟨by rfl, ?_⟩) hHeld ?_ ?_
  rotate_left
  · rintro w' ⟨s0, s1, s2⟩
    go_simp
    with_reducible rfl
  rotate_left
  · simp only [Act.put, List.setIfInBounds_toArray, List.set_cons_zero, List.set_cons_succ, i64_w, i32_w]
    rfl
  refine one_ (i := 3) (N := some 10) #[true, true, true, true, true, true, true, true, false, true, true, true, true, false, true, true, true, true, true, false, false, false] rfl rfl (one_of HT_.out (by kernel_rfl)) (by decide) (fun K hK => ?_)
  refine goes_ Try.func94 (by kernel_rfl) rfl #[.agg #[.string a0_0, .int .i64 a0_1, .int .u8 a0_2], .int .i64 a1, .int .i64 a2] (by rfl) rfl rfl (by (try simp only [List.map_toArray, List.map_cons, List.map_nil]); first | done | rfl | (simp only [List.length_drop, List.length_take]; rfl)) ?_
  with_reducible refine (reach_view_step.calls a0_0 a0_1 a0_2 a1 a2 t124 _ A4.out).mono ?_
  rintro e w10 ⟨rfl, hb⟩
  refine ⟨_, rfl, ?_⟩
  have n0_ := Aside0.mk (blk_below (g := gb123) (o := .cells #[.string a0_0, .int .i64 a0_1, .int .u8 a0_2] 53 (0, 0)) (by (with_reducible repeat (first | refine blk_drewN ?_ _ | refine blk_drew ?_ | refine blk_alloc ?_ _)); exact BK123.out) hb)
  have n1_ := Aside0.mk (below_step (by repeat (first | (with_reducible first | exact HB.out | apply below_alloc | apply pw_below_drewN | apply below_drew1 | refine below_set ?_ GE123.out) | exact HB.out)) hb)
  clear BK123
  clear HB
  have BK123 := n0_
  have HB := n1_
  clear n0_ n1_
  (try clear hb)
  (try clear hb2)
  (try clear hk)
  (try clear hi)
  refine hK.out _ _ ⟨(blk_cell BK123.out 0).trans rfl, (blk_cell BK123.out 1).trans rfl, (blk_cell BK123.out 2).trans rfl⟩ (fun hHeld => ?_)
  clear hK K
  refine norm_ (a' := ?_) ?_ ?_
  rotate_left
  · show Act.put _ (some 10) _ = _
    simp only [Act.put, List.setIfInBounds_toArray, List.set_cons_zero, List.set_cons_succ, i64_w, i32_w]
    rfl
  refine one_ (i := 8) (N := some 15) #[true, true, true, true, true, true, true, true, true, true, true, true, true, false, true, true, true, true, true, false, false, false] rfl rfl (one_of HT_.out (by kernel_rfl)) (by decide) (fun K hK => ?_)
  refine goes_ Try.func94 (by kernel_rfl) rfl #[.agg #[.string a0_0, .int .i64 a0_1, .int .u8 a0_2], .int .i64 (wrap64 (-a1)), .int .i64 a2] (by rfl) rfl rfl (by (try simp only [List.map_toArray, List.map_cons, List.map_nil]); first | done | rfl | (simp only [List.length_drop, List.length_take]; rfl)) ?_
  with_reducible refine (reach_view_step.calls a0_0 a0_1 a0_2 (wrap64 (-a1)) a2 t125 _ A5.out).mono ?_
  rintro e w11 ⟨rfl, hb⟩
  refine ⟨_, rfl, ?_⟩
  have n0_ := Aside0.mk (blk_below (g := gb123) (o := .cells #[.string a0_0, .int .i64 a0_1, .int .u8 a0_2] 53 (0, 0)) (by (with_reducible repeat (first | refine blk_drewN ?_ _ | refine blk_drew ?_ | refine blk_alloc ?_ _)); exact BK123.out) hb)
  have n1_ := Aside0.mk (below_step (by repeat (first | (with_reducible first | exact HB.out | apply below_alloc | apply pw_below_drewN | apply below_drew1 | refine below_set ?_ GE123.out) | exact HB.out)) hb)
  clear BK123
  clear HB
  have BK123 := n0_
  have HB := n1_
  clear n0_ n1_
  (try clear hb)
  (try clear hb2)
  (try clear hk)
  (try clear hi)
  refine hK.out _ _ ⟨(blk_cell BK123.out 0).trans rfl, (blk_cell BK123.out 1).trans rfl, (blk_cell BK123.out 2).trans rfl⟩ (fun hHeld => ?_)
  clear hK K
  refine norm_ (a' := ?_) ?_ ?_
  rotate_left
  · show Act.put _ (some 15) _ = _
    simp only [Act.put, List.setIfInBounds_toArray, List.set_cons_zero, List.set_cons_succ, i64_w, i32_w]
    rfl
  refine one_ (i := 13) (N := some 20) #[true, true, true, true, true, true, true, true, true, true, true, true, true, true, true, true, true, true, true, false, false, false] rfl rfl (one_of HT_.out (by kernel_rfl)) (by decide) (fun K hK => ?_)
  refine goes_ Try.func94 (by kernel_rfl) rfl #[.agg #[.string a0_0, .int .i64 a0_1, .int .u8 a0_2], .int .i64 a1, .int .i64 (wrap64 (-a2))] (by rfl) rfl rfl (by (try simp only [List.map_toArray, List.map_cons, List.map_nil]); first | done | rfl | (simp only [List.length_drop, List.length_take]; rfl)) ?_
  with_reducible refine (reach_view_step.calls a0_0 a0_1 a0_2 a1 (wrap64 (-a2)) t126 _ A6.out).mono ?_
  rintro e w12 ⟨rfl, hb⟩
  refine ⟨_, rfl, ?_⟩
  have n0_ := Aside0.mk (blk_below (g := gb123) (o := .cells #[.string a0_0, .int .i64 a0_1, .int .u8 a0_2] 53 (0, 0)) (by (with_reducible repeat (first | refine blk_drewN ?_ _ | refine blk_drew ?_ | refine blk_alloc ?_ _)); exact BK123.out) hb)
  have n1_ := Aside0.mk (below_step (by repeat (first | (with_reducible first | exact HB.out | apply below_alloc | apply pw_below_drewN | apply below_drew1 | refine below_set ?_ GE123.out) | exact HB.out)) hb)
  clear BK123
  clear HB
  have BK123 := n0_
  have HB := n1_
  clear n0_ n1_
  (try clear hb)
  (try clear hb2)
  (try clear hk)
  (try clear hi)
  refine hK.out _ _ ⟨(blk_cell BK123.out 0).trans rfl, (blk_cell BK123.out 1).trans rfl, (blk_cell BK123.out 2).trans rfl⟩ (fun hHeld => ?_)
  clear hK K
  refine norm_ (a' := ?_) ?_ ?_
  rotate_left
  · show Act.put _ (some 20) _ = _
    simp only [Act.put, List.setIfInBounds_toArray, List.set_cons_zero, List.set_cons_succ, i64_w, i32_w]
    rfl
  refine one_ (i := 19) (N := some 26) #[true, true, true, true, true, true, true, true, true, true, true, true, true, true, true, true, true, true, true, true, false, false] rfl rfl (one_of HT_.out (by kernel_rfl)) (by decide) (fun K hK => ?_)
  refine goes_ Try.func94 (by kernel_rfl) rfl #[.agg #[.string a0_0, .int .i64 a0_1, .int .u8 a0_2], .int .i64 (wrap64 (-a1)), .int .i64 (wrap64 (-a2))] (by rfl) rfl rfl (by (try simp only [List.map_toArray, List.map_cons, List.map_nil]); first | done | rfl | (simp only [List.length_drop, List.length_take]; rfl)) ?_
  with_reducible refine (reach_view_step.calls a0_0 a0_1 a0_2 (wrap64 (-a1)) (wrap64 (-a2)) t127 _ A7.out).mono ?_
  rintro e w13 ⟨rfl, hb⟩
  refine ⟨_, rfl, ?_⟩
  have n0_ := Aside0.mk (blk_below (g := gb123) (o := .cells #[.string a0_0, .int .i64 a0_1, .int .u8 a0_2] 53 (0, 0)) (by (with_reducible repeat (first | refine blk_drewN ?_ _ | refine blk_drew ?_ | refine blk_alloc ?_ _)); exact BK123.out) hb)
  have n1_ := Aside0.mk (below_step (by repeat (first | (with_reducible first | exact HB.out | apply below_alloc | apply pw_below_drewN | apply below_drew1 | refine below_set ?_ GE123.out) | exact HB.out)) hb)
  clear BK123
  clear HB
  have BK123 := n0_
  have HB := n1_
  clear n0_ n1_
  (try clear hb)
  (try clear hb2)
  (try clear hk)
  (try clear hi)
  refine hK.out _ _ ⟨(blk_cell BK123.out 0).trans rfl, (blk_cell BK123.out 1).trans rfl, (blk_cell BK123.out 2).trans rfl⟩ (fun hHeld => ?_)
  clear hK K
  refine norm_ (a' := ?_) ?_ ?_
  rotate_left
  · show Act.put _ (some 26) _ = _
    simp only [Act.put, List.setIfInBounds_toArray, List.set_cons_zero, List.set_cons_succ, i64_w, i32_w]
    rfl
  refine one_ (i := 20) (N := some 27) #[true, true, true, true, true, true, true, true, true, true, true, true, true, true, true, true, true, true, true, true, true, false] rfl rfl (one_of HT_.out (by kernel_rfl)) (by decide) (fun K hK => ?_)
  refine Kd.R_lit_step (Kd.int .i64) _ 3 ?hg (N := 27) ?hd (xs := ([t124, t125, t126, t127] : List Int)) (inner := [.int .i64 t124, .int .i64 t125, .int .i64 t126, .int .i64 t127]) (ok := fun _ => True) (okp := fun _ => True) ?hr ?hp (fun _ hk => hk) trivial (Below.refl _ _) (Nat.le_refl _) (by simp) ?_; (case hd => rfl); (case hg => rfl); (case hr => first | (go_simp; done) | (go_simp; rfl)); (case hp => exact (Reps.one (show Kd.M (Kd.int .i64) _ _ _ t124 [.int .i64 t124] from rfl) (Reps.one (show Kd.M (Kd.int .i64) _ _ _ t125 [.int .i64 t125] from rfl) (Reps.one (show Kd.M (Kd.int .i64) _ _ _ t126 [.int .i64 t126] from rfl) (Reps.one (show Kd.M (Kd.int .i64) _ _ _ t127 [.int .i64 t127] from rfl) (Reps.none _ _))))))
  intro v129 w14 ho15 hb hg_ hnew_
  clear hg_ hnew_
  (first | rw [← Ny128.out] at ho15 | (simp only [Int.reduceToNat] at ho15; rw [← Ny128.out] at ho15))
  have n0_ := Aside0.mk (Kd.R_lower ho15 (below_size (by repeat (first | (with_reducible first | exact HB.out | apply below_alloc | apply pw_below_drewN | apply below_drew1 | refine below_set ?_ GE123.out) | exact HB.out))))
  have n1_ := Aside0.mk (blk_below (g := gb123) (o := .cells #[.string a0_0, .int .i64 a0_1, .int .u8 a0_2] 53 (0, 0)) (by (with_reducible repeat (first | refine blk_drewN ?_ _ | refine blk_drew ?_ | refine blk_alloc ?_ _)); exact BK123.out) hb)
  have n2_ := Aside0.mk (below_step (by repeat (first | (with_reducible first | exact HB.out | apply below_alloc | apply pw_below_drewN | apply below_drew1 | refine below_set ?_ GE123.out) | exact HB.out)) hb)
  clear BK123
  clear HB
  have HO130 := n0_
  have BK123 := n1_
  have HB := n2_
  clear n0_ n1_ n2_
  clear hb ho15
  refine hK.out _ _ ⟨(blk_cell BK123.out 0).trans rfl, (blk_cell BK123.out 1).trans rfl, (blk_cell BK123.out 2).trans rfl⟩ (fun hHeld => ?_)
  clear hK K
  refine norm_ (a' := ?_) ?_ ?_
  rotate_left
  · show Act.put _ (some 27) _ = _
    simp only [Act.put, List.setIfInBounds_toArray, List.set_cons_zero, List.set_cons_succ, i64_w, i32_w]
    rfl
  refine pure_ (i := 21) (N := some 6) (v := ?_) (a' := ?_) #[true, true, true, true, true, true, true, true, true, true, true, true, true, true, true, true, true, true, true, true, true, true] rfl rfl (any_of HT_.out (by kernel_rfl)) (fun _ _ _ h => h) (Or.inl ⟨by rfl, ?_⟩) ?_ ?_
  rotate_left
  · intro w'
    go_simp
    with_reducible rfl
  rotate_left
  · simp only [Act.put, List.setIfInBounds_toArray, List.set_cons_zero, List.set_cons_succ, i64_w, i32_w]
    rfl
  refine done_ (done_of HT_.out (by kernel_rfl)) ?_
  try go_wp2
  go_ret
  exact ⟨_, by first | rfl | (simp [errW_none, errW_some] <;> rfl) | (simp [*, errW_none, errW_some] <;> rfl), by (with_reducible repeat (first | apply Kd.R_alloc | apply Kd.R_drewN | apply Kd.R_drew)); exact HO130.out, by repeat (first | (with_reducible first | exact HB.out | apply below_alloc | apply pw_below_drewN | apply below_drew1 | refine below_set ?_ GE123.out) | exact HB.out)⟩

/-! ### reach_view_general: function 70 -/
def reach_view_general.f (a0_0 : ByteArray) (a0_1 : Int) (a0_2 : Int) : Option (List Int) := (reach_view_four.f a0_0 a0_1 a0_2 1 0).bind fun t132 => ((reach_view_four.f a0_0 a0_1 a0_2 0 1).bind fun t135 => (if t132.length + t135.length < 17592186044416 then ((reach_view_allowed.f a0_0 a0_1 a0_2 (t132 ++ t135)).bind fun t141 => (some t141)) else (none)))
def reach_view_general.T1 : Bool × List (List Nat × List Nat) := (true, [([], []), ([], []), ([1], [1]), ([], []), ([3, 2], [3]), ([2, 4, 4], [2, 4]), ([0, 5, 5], [0, 5]), ([6, 6, 0, 1, 2, 3, 4, 5, 6], [6])])
def reach_view_general.B1 : List Nat := [0, 0, 2, 0, 14, 30, 63, 127]
theorem reach_view_general.tab1 : rtab .any (opsOf Try.f70 1) = reach_view_general.T1 := by kernel_rfl
theorem reach_view_general.bits1 : waitsOk reach_view_general.T1.2 reach_view_general.B1 = true := by kernel_rfl
set_option maxHeartbeats 8000000 in
set_option maxRecDepth 100000 in
theorem reach_view_general.calls (a0_0 : ByteArray) (a0_1 : Int) (a0_2 : Int) (r : List Int) (w : World) (h : reach_view_general.f a0_0 a0_1 a0_2 = some r) :
    Calls Try.prog 70 #[.agg #[.string a0_0, .int .i64 a0_1, .int .u8 a0_2]] w fun e w' => ∃ v0_ : Value, e = .returned (v0_) ∧ Kd.R (Kd.int .i64) 3 w' w.heap.size (fun _ => True) v0_ r ∧ Below w.heap.size w w' := by
  have hu53 := Try.underlying53
  have HB := Aside0.mk (Below.refl w.heap.size w)
  have H : ((reach_view_four.f a0_0 a0_1 a0_2 1 0).bind fun t132 => ((reach_view_four.f a0_0 a0_1 a0_2 0 1).bind fun t135 => (if t132.length + t135.length < 17592186044416 then ((reach_view_allowed.f a0_0 a0_1 a0_2 (t132 ++ t135)).bind fun t141 => (some t141)) else (none)))) = some r := h
  clear h
  replace H := Option.bind_eq_some_iff.mp H
  obtain ⟨t132, A20, H⟩ := H
  replace H : ((reach_view_four.f a0_0 a0_1 a0_2 0 1).bind fun t135 => (if t132.length + t135.length < 17592186044416 then ((reach_view_allowed.f a0_0 a0_1 a0_2 (t132 ++ t135)).bind fun t141 => (some t141)) else (none))) = some r := H
  have A2 := Aside0.mk A20
  clear A20
  replace H := Option.bind_eq_some_iff.mp H
  obtain ⟨t135, A30, H⟩ := H
  replace H : (if t132.length + t135.length < 17592186044416 then ((reach_view_allowed.f a0_0 a0_1 a0_2 (t132 ++ t135)).bind fun t141 => (some t141)) else (none)) = some r := H
  have A3 := Aside0.mk A30
  clear A30
  by_cases c4 : t132.length + t135.length < 17592186044416
  · rw [if_pos c4] at H
    have LMc4 := Aside0.mk c4
    clear c4
    obtain ⟨y138, hy138⟩ : ∃ y_ : List Int, y_ = (t132 ++ t135) := ⟨_, rfl⟩
    replace H : ((reach_view_allowed.f a0_0 a0_1 a0_2 y138).bind fun t141 => (some t141)) = some r := by first | (rw [hy138]; with_reducible exact H) | (have H2_ := (Option.bind_some _ _).symm.trans H; rw [hy138]; with_reducible exact H2_) | (have H2_ := (Option.bind_some _ _).symm.trans H; with_reducible exact H2_) | with_reducible exact H | (rw [hy138]; exact H) | exact H
    have Ny138 := Aside0.mk hy138
    clear hy138
    replace H := Option.bind_eq_some_iff.mp H
    obtain ⟨t141, A50, H⟩ := H
    replace H : (some t141) = some r := H
    have A5 := Aside0.mk A50
    clear A50
    obtain rfl := Option.some.inj H
    go_enter Try.func70, Try.ntmps70
    try go_wp2_with (first | ((with_reducible refine gate_dst (N := 1) rfl ?_); refine box_event ?hg (N := 1) ?hd (cs := #[.string a0_0, .int .i64 a0_1, .int .u8 a0_2]) (t := 53) ?hr ?_; (case hd => rfl); (case hg => rfl); (case hr => first | (go_simp; done) | (go_simp; rfl)); intro gb131 hg w6 hbox hb; have n0_ := Aside0.mk (below_step (by repeat (first | (with_reducible first | exact HB.out | apply below_alloc | apply pw_below_drewN | apply below_drew1) | exact HB.out)) hb); have n1_ := Aside0.mk (hbox); have n2_ := Aside0.mk ((by rw [hg]; exact (below_size (by repeat (first | (with_reducible first | exact HB.out | apply below_alloc | apply pw_below_drewN | apply below_drew1) | exact HB.out))) : w.heap.size ≤ gb131)); have n3_ := Aside0.mk ((by rw [hg]; exact (below_size (by repeat (first | (with_reducible first | exact HB.out | apply below_alloc | apply pw_below_drewN | apply below_drew1) | exact HB.out))) : w.heap.size ≤ gb131)); clear HB; have HB := n0_; have BK131 := n1_; have GW131 := n2_; have GE131 := n3_; clear n0_ n1_ n2_ n3_; clear hb hbox hg))
    have n0_ := Aside0.mk (blk_drew BK131.out)
    have n1_ := Aside0.mk (below_drew1 HB.out)
    clear BK131
    clear HB
    have BK131 := n0_
    have HB := n1_
    clear n0_ n1_
    refine start_ (n := 8) (S := fun w' => w'.cell? ⟨gb131, 0, none⟩ = some (.string a0_0) ∧ w'.cell? ⟨gb131, 1, none⟩ = some (.int .i64 a0_1) ∧ w'.cell? ⟨gb131, 2, none⟩ = some (.int .u8 a0_2)) (ds := []) #[false, false, false, false, false, false, false, false] (by kernel_rfl) rfl rfl ⟨(blk_cell BK131.out 0).trans rfl, (blk_cell BK131.out 1).trans rfl, (blk_cell BK131.out 2).trans rfl⟩ (fun hHeld => ?_); refine with_tabW reach_view_general.tab1 reach_view_general.bits1 (fun HT_ HW_ => ?_)
    generalize w6.drew = w7 at BK131 HB hHeld ⊢
    refine take_ (i := 0) (N := some 3) (v := ?_) (a' := ?_) #[true, false, false, false, false, false, false, false] rfl rfl (take_ofW HT_.out HW_.out (by kernel_rfl)) (fun _ _ _ h => h) (Or.inl ⟨by rfl, ?_⟩) hHeld ?_ ?_
    rotate_left
    · rintro w' ⟨s0, s1, s2⟩
      go_simp
      with_reducible rfl
    rotate_left
    · simp only [Act.put, List.setIfInBounds_toArray, List.set_cons_zero, List.set_cons_succ, i64_w, i32_w]
      rfl
    refine take_ (i := 1) (N := some 4) (v := ?_) (a' := ?_) #[true, true, false, false, false, false, false, false] rfl rfl (take_ofW HT_.out HW_.out (by kernel_rfl)) (fun _ _ _ h => h) (Or.inl ⟨by rfl, ?_⟩) hHeld ?_ ?_
    rotate_left
    · rintro w' ⟨s0, s1, s2⟩
      go_simp
      with_reducible rfl
    rotate_left
    · simp only [Act.put, List.setIfInBounds_toArray, List.set_cons_zero, List.set_cons_succ, i64_w, i32_w]
      rfl
    refine take_ (i := 3) (N := some 6) (v := ?_) (a' := ?_) #[true, true, false, true, false, false, false, false] rfl rfl (take_ofW HT_.out HW_.out (by kernel_rfl)) (fun _ _ _ h => h) (Or.inl ⟨by rfl, ?_⟩) hHeld ?_ ?_
    rotate_left
    · rintro w' ⟨s0, s1, s2⟩
      go_simp
      with_reducible rfl
    rotate_left
    · simp only [Act.put, List.setIfInBounds_toArray, List.set_cons_zero, List.set_cons_succ, i64_w, i32_w]
      rfl
    refine one_ (i := 2) (N := some 5) #[true, true, true, true, false, false, false, false] rfl rfl (one_of HT_.out (by kernel_rfl)) (by decide) (fun K hK => ?_)
    refine goes_ Try.func91 (by kernel_rfl) rfl #[.agg #[.string a0_0, .int .i64 a0_1, .int .u8 a0_2], .int .i64 1, .int .i64 0] (by rfl) rfl rfl (by (try simp only [List.map_toArray, List.map_cons, List.map_nil]); first | done | rfl | (simp only [List.length_drop, List.length_take]; rfl)) ?_
    with_reducible refine (reach_view_four.calls a0_0 a0_1 a0_2 1 0 t132 _ A2.out).mono ?_
    rintro e w8 ⟨v133, rfl, ho0, hb⟩
    refine ⟨_, rfl, ?_⟩
    have n0_ := Aside0.mk (Kd.R_lower ho0 (below_size (by repeat (first | (with_reducible first | exact HB.out | apply below_alloc | apply pw_below_drewN | apply below_drew1 | refine below_set ?_ GE131.out) | exact HB.out))))
    have n1_ := Aside0.mk (blk_below (g := gb131) (o := .cells #[.string a0_0, .int .i64 a0_1, .int .u8 a0_2] 53 (0, 0)) (by (with_reducible repeat (first | refine blk_drewN ?_ _ | refine blk_drew ?_ | refine blk_alloc ?_ _)); exact BK131.out) hb)
    have n2_ := Aside0.mk (below_step (by repeat (first | (with_reducible first | exact HB.out | apply below_alloc | apply pw_below_drewN | apply below_drew1 | refine below_set ?_ GE131.out) | exact HB.out)) hb)
    clear BK131
    clear HB
    have HO134 := n0_
    have BK131 := n1_
    have HB := n2_
    clear n0_ n1_ n2_
    (try clear hb)
    (try clear hb2)
    (try clear hk)
    (try clear hi)
    (try clear ho0)
    refine hK.out _ _ ⟨(blk_cell BK131.out 0).trans rfl, (blk_cell BK131.out 1).trans rfl, (blk_cell BK131.out 2).trans rfl⟩ (fun hHeld => ?_)
    clear hK K
    refine norm_ (a' := ?_) ?_ ?_
    rotate_left
    · show Act.put _ (some 5) _ = _
      simp only [Act.put, List.setIfInBounds_toArray, List.set_cons_zero, List.set_cons_succ, i64_w, i32_w]
      rfl
    refine one_ (i := 4) (N := some 7) #[true, true, true, true, true, false, false, false] rfl rfl (one_of HT_.out (by kernel_rfl)) (by decide) (fun K hK => ?_)
    refine goes_ Try.func91 (by kernel_rfl) rfl #[.agg #[.string a0_0, .int .i64 a0_1, .int .u8 a0_2], .int .i64 0, .int .i64 1] (by rfl) rfl rfl (by (try simp only [List.map_toArray, List.map_cons, List.map_nil]); first | done | rfl | (simp only [List.length_drop, List.length_take]; rfl)) ?_
    with_reducible refine (reach_view_four.calls a0_0 a0_1 a0_2 0 1 t135 _ A3.out).mono ?_
    rintro e w9 ⟨v136, rfl, ho0, hb⟩
    refine ⟨_, rfl, ?_⟩
    have n0_ := Aside0.mk (Kd.R_elder' (by (with_reducible repeat (first | apply Kd.R_alloc | apply Kd.R_drewN | apply Kd.R_drew)); exact HO134.out) (Kd.R_base ho0) hb)
    have n1_ := Aside0.mk (Kd.R_lower (Kd.R_new' ho0 (Kd.R_lt (by (with_reducible repeat (first | apply Kd.R_alloc | apply Kd.R_drewN | apply Kd.R_drew)); exact HO134.out))) (below_size (by repeat (first | (with_reducible first | exact HB.out | apply below_alloc | apply pw_below_drewN | apply below_drew1 | refine below_set ?_ GE131.out) | exact HB.out))))
    have n2_ := Aside0.mk (blk_below (g := gb131) (o := .cells #[.string a0_0, .int .i64 a0_1, .int .u8 a0_2] 53 (0, 0)) (by (with_reducible repeat (first | refine blk_drewN ?_ _ | refine blk_drew ?_ | refine blk_alloc ?_ _)); exact BK131.out) hb)
    have n3_ := Aside0.mk (below_step (by repeat (first | (with_reducible first | exact HB.out | apply below_alloc | apply pw_below_drewN | apply below_drew1 | refine below_set ?_ GE131.out) | exact HB.out)) hb)
    clear HO134
    clear BK131
    clear HB
    have HO134 := n0_
    have HO137 := n1_
    have BK131 := n2_
    have HB := n3_
    clear n0_ n1_ n2_ n3_
    (try clear hb)
    (try clear hb2)
    (try clear hk)
    (try clear hi)
    (try clear ho0)
    obtain ⟨Ao11, co11, eo11⟩ := Kd.R_slice HO137.out
    (first | subst eo11 | (injection eo11 with f1_ f2_ f3_; have f4_ := f1_.symm; have f5_ := f3_.symm; clear f1_ f2_ f3_; subst f4_; subst f5_))
    refine hK.out _ _ ⟨(blk_cell BK131.out 0).trans rfl, (blk_cell BK131.out 1).trans rfl, (blk_cell BK131.out 2).trans rfl⟩ (fun hHeld => ?_)
    clear hK K
    refine norm_ (a' := ?_) ?_ ?_
    rotate_left
    · show Act.put _ (some 7) _ = _
      simp only [Act.put, List.setIfInBounds_toArray, List.set_cons_zero, List.set_cons_succ, i64_w, i32_w]
      rfl
    refine one_ (i := 5) (N := some 8) #[true, true, true, true, true, true, false, false] rfl rfl (one_of HT_.out (by kernel_rfl)) (by decide) (fun K hK => ?_)
    refine Kd.R_append_rows_step (Kd.int .i64) (w0 := w) w.heap.size (by rfl) (.tmp 5) (.tmp 7) 24 3 (.int .i64 0) 8 rfl Try.underlying24 info3 rfl (by decide) (by omega) v133 t132 t135 _ _ _ (fun k_ => some k_ ≠ (.slice Ao11 t135.length co11 : Value).ownBlock) (fun _ => False) rfl rfl ?aO ?aR (fun _ _ h => h) (fun _ h => h.elim) ?aF ?aB ?aS ?aL ?_
    (case aR => repeat (first | exact (Kd.R_reads' HO137.out).2.2 | (with_reducible refine Kd.C_alloc ?_ _) | (with_reducible refine Kd.C_drewN ?_ _) | (with_reducible refine Kd.C_drew ?_)))
    (case aB => exact (by repeat (first | (with_reducible first | exact HB.out | apply below_alloc | apply pw_below_drewN | apply below_drew1 | refine below_set ?_ GE131.out) | exact HB.out)))
    (case aF => exact (fun k_ hk => Kd.fresh' (Kd.R_lt (by (with_reducible repeat (first | apply Kd.R_alloc | apply Kd.R_drewN | apply Kd.R_drew)); exact HO137.out)) k_ hk))
    (case aO => exact (by (with_reducible repeat (first | apply Kd.R_alloc | apply Kd.R_drewN | apply Kd.R_drew)); exact Kd.R_mono HO134.out (fun _ hk => hk.2)))
    (case aS => exact (below_size (by repeat (first | (with_reducible first | exact HB.out | apply below_alloc | apply pw_below_drewN | apply below_drew1 | refine below_set ?_ GE131.out) | exact HB.out))))
    (case aL => have := LMc4.out; omega)
    intro v139 w10 ho hb hg hat
    rw [← Ny138.out] at ho
    have n0_ := Aside0.mk (blk_grown (g := gb131) (o := .cells #[.string a0_0, .int .i64 a0_1, .int .u8 a0_2] 53 (0, 0)) (by (with_reducible repeat (first | refine blk_drewN ?_ _ | refine blk_drew ?_ | refine blk_alloc ?_ _)); exact BK131.out) hg (Kd.R_ne HO134.out BK131.out (by decide)))
    have n1_ := Aside0.mk (Kd.R_after (ok := (fun _ => True)) (by (with_reducible repeat (first | apply Kd.R_alloc | apply Kd.R_drewN | apply Kd.R_drew)); exact HO137.out) hg hat)
    have n2_ := Aside0.mk (hb)
    have n3_ := Aside0.mk (ho)
    clear BK131
    clear HO137
    clear HB
    clear HO134
    have BK131 := n0_
    have HO137 := n1_
    have HB := n2_
    have HO140 := n3_
    clear n0_ n1_ n2_ n3_
    clear ho hb hg hat
    obtain ⟨Ao12, co12, eo12⟩ := Kd.R_slice HO140.out
    (first | subst eo12 | (injection eo12 with f1_ f2_ f3_; have f4_ := f1_.symm; have f5_ := f3_.symm; clear f1_ f2_ f3_; subst f4_; subst f5_))
    refine hK.out _ _ ⟨(blk_cell BK131.out 0).trans rfl, (blk_cell BK131.out 1).trans rfl, (blk_cell BK131.out 2).trans rfl⟩ (fun hHeld => ?_)
    clear hK K
    refine norm_ (a' := ?_) ?_ ?_
    rotate_left
    · show Act.put _ (some 8) _ = _
      simp only [Act.put, List.setIfInBounds_toArray, List.set_cons_zero, List.set_cons_succ, i64_w, i32_w]
      rfl
    refine one_ (i := 6) (N := some 9) #[true, true, true, true, true, true, true, false] rfl rfl (one_of HT_.out (by kernel_rfl)) (by decide) (fun K hK => ?_)
    refine goes_ Try.func90 (by kernel_rfl) rfl #[.agg #[.string a0_0, .int .i64 a0_1, .int .u8 a0_2], .slice Ao12 y138.length co12] (by rfl) rfl rfl (by (try simp only [List.map_toArray, List.map_cons, List.map_nil]); first | done | rfl | (simp only [List.length_drop, List.length_take]; rfl)) ?_
    with_reducible refine (reach_view_allowed.calls a0_0 a0_1 a0_2 (fun k_ => some k_ = (.slice Ao12 y138.length co12 : Value).ownBlock) (.slice Ao12 y138.length co12) y138 t141 w _ ?side1 ?side2 A5.out).mono ?_
    (case side1 => repeat (first | (with_reducible first | exact HB.out | apply below_alloc | apply pw_below_drewN | apply below_drew1 | refine below_set ?_ GE131.out) | exact HB.out))
    (case side2 => exact Kd.R_tight rfl HO140.out)
    rintro e w13 ⟨v142, rfl, ho0, hb, hkp⟩
    refine ⟨_, rfl, ?_⟩
    have n0_ := Aside0.mk (blk_kept (by (with_reducible repeat (first | refine blk_drewN ?_ _ | refine blk_drew ?_ | refine blk_alloc ?_ _)); exact BK131.out) hkp (fun hs_ => (fun e_ => (Kd.R_ne HO140.out BK131.out (by decide)) e_) hs_))
    have n1_ := Aside0.mk (Kd.R_mono (ok' := fun k_ => some k_ ≠ (v142 : Value).ownBlock) (Kd.R_keptB (HO137.out) hkp (fun k_ hk_ hs_ => (hk_.2) hs_)) (fun k_ hk_ => fun e_ => Or.elim (ho0.1 k_ e_.symm) (fun hs_ => hk_.2.1 hs_) (fun hn_ => Nat.not_le.2 hk_.2.2 hn_)))
    have n2_ := Aside0.mk (Kd.R_mono (ok' := fun k_ => some k_ ≠ (.slice Ao11 t135.length co11 : Value).ownBlock) ho0 (fun k_ hk_ => Or.elim hk_ (fun hs_ => fun e_ => (((HO137.out).1 k_ e_.symm).2) hs_) (fun hn_ => (Kd.fresh' (Kd.R_lt (by (with_reducible repeat (first | apply Kd.R_alloc | apply Kd.R_drewN | apply Kd.R_drew)); exact HO137.out)) k_ hn_))))
    have n3_ := Aside0.mk (hb)
    clear BK131
    clear HO137
    clear HB
    clear HO140
    have BK131 := n0_
    have HO137 := n1_
    have HO143 := n2_
    have HB := n3_
    clear n0_ n1_ n2_ n3_
    (try clear hb)
    (try clear hkp)
    (try clear ho0)
    refine hK.out _ _ ⟨(blk_cell BK131.out 0).trans rfl, (blk_cell BK131.out 1).trans rfl, (blk_cell BK131.out 2).trans rfl⟩ (fun hHeld => ?_)
    clear hK K
    refine norm_ (a' := ?_) ?_ ?_
    rotate_left
    · show Act.put _ (some 9) _ = _
      simp only [Act.put, List.setIfInBounds_toArray, List.set_cons_zero, List.set_cons_succ, i64_w, i32_w]
      rfl
    refine pure_ (i := 7) (N := some 2) (v := ?_) (a' := ?_) #[true, true, true, true, true, true, true, true] rfl rfl (any_of HT_.out (by kernel_rfl)) (fun _ _ _ h => h) (Or.inl ⟨by rfl, ?_⟩) ?_ ?_
    rotate_left
    · intro w'
      go_simp
      with_reducible rfl
    rotate_left
    · simp only [Act.put, List.setIfInBounds_toArray, List.set_cons_zero, List.set_cons_succ, i64_w, i32_w]
      rfl
    refine done_ (done_of HT_.out (by kernel_rfl)) ?_
    try go_wp2
    go_ret
    exact ⟨_, by first | rfl | (simp [errW_none, errW_some] <;> rfl) | (simp [*, errW_none, errW_some] <;> rfl), by (with_reducible repeat (first | apply Kd.R_alloc | apply Kd.R_drewN | apply Kd.R_drew)); exact Kd.R_mono HO143.out (fun _ hk => trivial), by repeat (first | (with_reducible first | exact HB.out | apply below_alloc | apply pw_below_drewN | apply below_drew1 | refine below_set ?_ GE131.out) | exact HB.out)⟩
  · rw [if_neg c4] at H
    exact absurd H (by simp)

/-! ### reach_view_advisor: function 71 -/
def reach_view_advisor.f (a0_0 : ByteArray) (a0_1 : Int) (a0_2 : Int) : Option (List Int) := (reach_view_four.f a0_0 a0_1 a0_2 1 1).bind fun t145 => ((reach_view_allowed.f a0_0 a0_1 a0_2 t145).bind fun t148 => (some t148))
set_option maxHeartbeats 8000000 in
set_option maxRecDepth 100000 in
theorem reach_view_advisor.calls (a0_0 : ByteArray) (a0_1 : Int) (a0_2 : Int) (r : List Int) (w : World) (h : reach_view_advisor.f a0_0 a0_1 a0_2 = some r) :
    Calls Try.prog 71 #[.agg #[.string a0_0, .int .i64 a0_1, .int .u8 a0_2]] w fun e w' => ∃ v0_ : Value, e = .returned (v0_) ∧ Kd.R (Kd.int .i64) 3 w' w.heap.size (fun _ => True) v0_ r ∧ Below w.heap.size w w' := by
  have hu53 := Try.underlying53
  have HB := Aside0.mk (Below.refl w.heap.size w)
  have H : ((reach_view_four.f a0_0 a0_1 a0_2 1 1).bind fun t145 => ((reach_view_allowed.f a0_0 a0_1 a0_2 t145).bind fun t148 => (some t148))) = some r := h
  clear h
  replace H := Option.bind_eq_some_iff.mp H
  obtain ⟨t145, A20, H⟩ := H
  replace H : ((reach_view_allowed.f a0_0 a0_1 a0_2 t145).bind fun t148 => (some t148)) = some r := H
  have A2 := Aside0.mk A20
  clear A20
  replace H := Option.bind_eq_some_iff.mp H
  obtain ⟨t148, A30, H⟩ := H
  replace H : (some t148) = some r := H
  have A3 := Aside0.mk A30
  clear A30
  obtain rfl := Option.some.inj H
  go_enter Try.func71, Try.ntmps71
  try go_wp2_with (first | ((with_reducible refine gate_dst (N := 1) rfl ?_); refine box_event ?hg (N := 1) ?hd (cs := #[.string a0_0, .int .i64 a0_1, .int .u8 a0_2]) (t := 53) ?hr ?_; (case hd => rfl); (case hg => rfl); (case hr => first | (go_simp; done) | (go_simp; rfl)); intro gb144 hg w4 hbox hb; have n0_ := Aside0.mk (below_step (by repeat (first | (with_reducible first | exact HB.out | apply below_alloc | apply pw_below_drewN | apply below_drew1) | exact HB.out)) hb); have n1_ := Aside0.mk (hbox); have n2_ := Aside0.mk ((by rw [hg]; exact (below_size (by repeat (first | (with_reducible first | exact HB.out | apply below_alloc | apply pw_below_drewN | apply below_drew1) | exact HB.out))) : w.heap.size ≤ gb144)); have n3_ := Aside0.mk ((by rw [hg]; exact (below_size (by repeat (first | (with_reducible first | exact HB.out | apply below_alloc | apply pw_below_drewN | apply below_drew1) | exact HB.out))) : w.heap.size ≤ gb144)); clear HB; have HB := n0_; have BK144 := n1_; have GW144 := n2_; have GE144 := n3_; clear n0_ n1_ n2_ n3_; clear hb hbox hg))
  have n0_ := Aside0.mk (blk_drew BK144.out)
  have n1_ := Aside0.mk (below_drew1 HB.out)
  clear BK144
  clear HB
  have BK144 := n0_
  have HB := n1_
  clear n0_ n1_
  refine start_ (n := 5) (S := fun w' => w'.cell? ⟨gb144, 0, none⟩ = some (.string a0_0) ∧ w'.cell? ⟨gb144, 1, none⟩ = some (.int .i64 a0_1) ∧ w'.cell? ⟨gb144, 2, none⟩ = some (.int .u8 a0_2)) (ds := []) #[false, false, false, false, false] (by kernel_rfl) rfl rfl ⟨(blk_cell BK144.out 0).trans rfl, (blk_cell BK144.out 1).trans rfl, (blk_cell BK144.out 2).trans rfl⟩ (fun hHeld => ?_)
  generalize w4.drew = w5 at BK144 HB hHeld ⊢
  refine take_ (i := 0) (N := some 3) (v := ?_) (a' := ?_) #[true, false, false, false, false] rfl rfl (by kernel_rfl) (fun _ _ _ h => h) (Or.inl ⟨by rfl, ?_⟩) hHeld ?_ ?_
  rotate_left
  · rintro w' ⟨s0, s1, s2⟩
    go_simp
    with_reducible rfl
  rotate_left
  · simp only [Act.put, List.setIfInBounds_toArray, List.set_cons_zero, List.set_cons_succ, i64_w, i32_w]
    rfl
  refine take_ (i := 1) (N := some 4) (v := ?_) (a' := ?_) #[true, true, false, false, false] rfl rfl (by kernel_rfl) (fun _ _ _ h => h) (Or.inl ⟨by rfl, ?_⟩) hHeld ?_ ?_
  rotate_left
  · rintro w' ⟨s0, s1, s2⟩
    go_simp
    with_reducible rfl
  rotate_left
  · simp only [Act.put, List.setIfInBounds_toArray, List.set_cons_zero, List.set_cons_succ, i64_w, i32_w]
    rfl
  refine one_ (i := 2) (N := some 5) #[true, true, true, false, false] rfl rfl (by kernel_rfl) (by decide) (fun K hK => ?_)
  refine goes_ Try.func91 (by kernel_rfl) rfl #[.agg #[.string a0_0, .int .i64 a0_1, .int .u8 a0_2], .int .i64 1, .int .i64 1] (by rfl) rfl rfl (by (try simp only [List.map_toArray, List.map_cons, List.map_nil]); first | done | rfl | (simp only [List.length_drop, List.length_take]; rfl)) ?_
  with_reducible refine (reach_view_four.calls a0_0 a0_1 a0_2 1 1 t145 _ A2.out).mono ?_
  rintro e w6 ⟨v146, rfl, ho0, hb⟩
  refine ⟨_, rfl, ?_⟩
  have n0_ := Aside0.mk (Kd.R_lower ho0 (below_size (by repeat (first | (with_reducible first | exact HB.out | apply below_alloc | apply pw_below_drewN | apply below_drew1 | refine below_set ?_ GE144.out) | exact HB.out))))
  have n1_ := Aside0.mk (blk_below (g := gb144) (o := .cells #[.string a0_0, .int .i64 a0_1, .int .u8 a0_2] 53 (0, 0)) (by (with_reducible repeat (first | refine blk_drewN ?_ _ | refine blk_drew ?_ | refine blk_alloc ?_ _)); exact BK144.out) hb)
  have n2_ := Aside0.mk (below_step (by repeat (first | (with_reducible first | exact HB.out | apply below_alloc | apply pw_below_drewN | apply below_drew1 | refine below_set ?_ GE144.out) | exact HB.out)) hb)
  clear BK144
  clear HB
  have HO147 := n0_
  have BK144 := n1_
  have HB := n2_
  clear n0_ n1_ n2_
  (try clear hb)
  (try clear hb2)
  (try clear hk)
  (try clear hi)
  (try clear ho0)
  obtain ⟨Ao7, co7, eo7⟩ := Kd.R_slice HO147.out
  (first | subst eo7 | (injection eo7 with f1_ f2_ f3_; have f4_ := f1_.symm; have f5_ := f3_.symm; clear f1_ f2_ f3_; subst f4_; subst f5_))
  refine hK.out _ _ ⟨(blk_cell BK144.out 0).trans rfl, (blk_cell BK144.out 1).trans rfl, (blk_cell BK144.out 2).trans rfl⟩ (fun hHeld => ?_)
  clear hK K
  refine norm_ (a' := ?_) ?_ ?_
  rotate_left
  · show Act.put _ (some 5) _ = _
    simp only [Act.put, List.setIfInBounds_toArray, List.set_cons_zero, List.set_cons_succ, i64_w, i32_w]
    rfl
  refine one_ (i := 3) (N := some 6) #[true, true, true, true, false] rfl rfl (by kernel_rfl) (by decide) (fun K hK => ?_)
  refine goes_ Try.func90 (by kernel_rfl) rfl #[.agg #[.string a0_0, .int .i64 a0_1, .int .u8 a0_2], .slice Ao7 t145.length co7] (by rfl) rfl rfl (by (try simp only [List.map_toArray, List.map_cons, List.map_nil]); first | done | rfl | (simp only [List.length_drop, List.length_take]; rfl)) ?_
  with_reducible refine (reach_view_allowed.calls a0_0 a0_1 a0_2 (fun k_ => some k_ = (.slice Ao7 t145.length co7 : Value).ownBlock) (.slice Ao7 t145.length co7) t145 t148 w _ ?side1 ?side2 A3.out).mono ?_
  (case side1 => repeat (first | (with_reducible first | exact HB.out | apply below_alloc | apply pw_below_drewN | apply below_drew1 | refine below_set ?_ GE144.out) | exact HB.out))
  (case side2 => exact Kd.R_tight rfl HO147.out)
  rintro e w8 ⟨v149, rfl, ho0, hb, hkp⟩
  refine ⟨_, rfl, ?_⟩
  have n0_ := Aside0.mk (blk_kept (by (with_reducible repeat (first | refine blk_drewN ?_ _ | refine blk_drew ?_ | refine blk_alloc ?_ _)); exact BK144.out) hkp (fun hs_ => (fun e_ => (Kd.R_ne HO147.out BK144.out (by decide)) e_) hs_))
  have n1_ := Aside0.mk (Kd.R_mono (ok' := fun k_ => True) ho0 (fun k_ hk_ => trivial))
  have n2_ := Aside0.mk (hb)
  clear BK144
  clear HB
  clear HO147
  have BK144 := n0_
  have HO150 := n1_
  have HB := n2_
  clear n0_ n1_ n2_
  (try clear hb)
  (try clear hkp)
  (try clear ho0)
  refine hK.out _ _ ⟨(blk_cell BK144.out 0).trans rfl, (blk_cell BK144.out 1).trans rfl, (blk_cell BK144.out 2).trans rfl⟩ (fun hHeld => ?_)
  clear hK K
  refine norm_ (a' := ?_) ?_ ?_
  rotate_left
  · show Act.put _ (some 6) _ = _
    simp only [Act.put, List.setIfInBounds_toArray, List.set_cons_zero, List.set_cons_succ, i64_w, i32_w]
    rfl
  refine pure_ (i := 4) (N := some 2) (v := ?_) (a' := ?_) #[true, true, true, true, true] rfl rfl (by kernel_rfl) (fun _ _ _ h => h) (Or.inl ⟨by rfl, ?_⟩) ?_ ?_
  rotate_left
  · intro w'
    go_simp
    with_reducible rfl
  rotate_left
  · simp only [Act.put, List.setIfInBounds_toArray, List.set_cons_zero, List.set_cons_succ, i64_w, i32_w]
    rfl
  refine done_ (by kernel_rfl) ?_
  try go_wp2
  go_ret
  exact ⟨_, by first | rfl | (simp [errW_none, errW_some] <;> rfl) | (simp [*, errW_none, errW_some] <;> rfl), by (with_reducible repeat (first | apply Kd.R_alloc | apply Kd.R_drewN | apply Kd.R_drew)); exact HO150.out, by repeat (first | (with_reducible first | exact HB.out | apply below_alloc | apply pw_below_drewN | apply below_drew1 | refine below_set ?_ GE144.out) | exact HB.out)⟩

/-! ### reach_is: function 44 -/
def reach_is.f (a0 : Int) : Option (Bool) := if a0 ≥ 0 then (some (decide (a0 < 90))) else (some false)
set_option maxHeartbeats 8000000 in
set_option maxRecDepth 100000 in
theorem reach_is.calls (a0 : Int) (r : Bool) (w : World) (h : reach_is.f a0 = some r) :
    Calls Try.prog 44 #[.int .i64 a0] w fun e w' => e = .returned (.bool r) ∧ Drawn0 w w' := by
  have H : (if a0 ≥ 0 then (some (decide (a0 < 90))) else (some false)) = some r := h
  clear h
  by_cases c2 : a0 ≥ 0
  · rw [if_pos c2] at H
    have c2b0 : decide (0 ≤ a0) = true := decide_eq_true c2
    clear c2
    obtain rfl := Option.some.inj H
    go_enter Try.func44, Try.ntmps44
    go_wp2
    go_ret
    exact ⟨by first | rfl | (simp; done) | (simp [*]; done), by repeat (first | exact Drawn0.refl _ | apply Drawn0.step)⟩
  · rw [if_neg c2] at H
    have c2b0 : decide (0 ≤ a0) = false := decide_eq_false c2
    clear c2
    obtain rfl := Option.some.inj H
    go_enter Try.func44, Try.ntmps44
    go_wp2
    go_ret
    exact ⟨by first | rfl | (simp; done) | (simp [*]; done), by repeat (first | exact Drawn0.refl _ | apply Drawn0.step)⟩

/-! ### reach_view_empty: function 93 -/
def reach_view_empty.f (a0_0 : ByteArray) (a0_1 : Int) (a0_2 : Int) (a1 : Int) : Option (Bool) := (reach_is.f a1).bind fun t152 => (if t152 = true then (if 0 ≤ a1 then (if a1 < (a0_0.size : Int) then (some ((bt a0_0 a1) == 46)) else (none)) else (none)) else (some false))
set_option maxHeartbeats 8000000 in
set_option maxRecDepth 100000 in
theorem reach_view_empty.calls (a0_0 : ByteArray) (a0_1 : Int) (a0_2 : Int) (a1 : Int) (r : Bool) (w : World) (h : reach_view_empty.f a0_0 a0_1 a0_2 a1 = some r) :
    Calls Try.prog 93 #[.agg #[.string a0_0, .int .i64 a0_1, .int .u8 a0_2], .int .i64 a1] w fun e w' => e = .returned (.bool r) ∧ Below w.heap.size w w' := by
  have hu53 := Try.underlying53
  have HB := Aside0.mk (Below.refl w.heap.size w)
  have H : ((reach_is.f a1).bind fun t152 => (if t152 = true then (if 0 ≤ a1 then (if a1 < (a0_0.size : Int) then (some ((bt a0_0 a1) == 46)) else (none)) else (none)) else (some false))) = some r := h
  clear h
  replace H := Option.bind_eq_some_iff.mp H
  obtain ⟨t152, A30, H⟩ := H
  replace H : (if t152 = true then (if 0 ≤ a1 then (if a1 < (a0_0.size : Int) then (some ((bt a0_0 a1) == 46)) else (none)) else (none)) else (some false)) = some r := H
  have A3 := Aside0.mk A30
  clear A30
  by_cases c4 : t152 = true
  · subst c4
    have H1 : (if 0 ≤ a1 then (if a1 < (a0_0.size : Int) then (some ((bt a0_0 a1) == 46)) else (none)) else (none)) = some r := by rw [if_pos rfl] at H; exact H
    clear H
    have H := H1
    clear H1
    by_cases c5 : 0 ≤ a1
    · rw [if_pos c5] at H
      have c5b0 : decide (0 ≤ a1) = true := decide_eq_true c5
      clear c5
      by_cases c6 : a1 < (a0_0.size : Int)
      · rw [if_pos c6] at H
        have c6b0 : decide (a1 < (a0_0.size : Int)) = true := decide_eq_true c6
        clear c6
        obtain rfl := Option.some.inj H
        go_enter Try.func93, Try.ntmps93
        go_wp2_with (first | ((with_reducible refine gate_dst (N := 2) rfl ?_); refine box_event ?hg (N := 2) ?hd (cs := #[.string a0_0, .int .i64 a0_1, .int .u8 a0_2]) (t := 53) ?hr ?_; (case hd => rfl); (case hg => rfl); (case hr => first | (go_simp; done) | (go_simp; rfl)); intro gb151 hg w8 hbox hb; have n0_ := Aside0.mk (below_step (by repeat (first | (with_reducible first | exact HB.out | apply below_alloc | apply pw_below_drewN | apply below_drew1) | exact HB.out)) hb); have n1_ := Aside0.mk (hbox); have n2_ := Aside0.mk ((by rw [hg]; exact (below_size (by repeat (first | (with_reducible first | exact HB.out | apply below_alloc | apply pw_below_drewN | apply below_drew1) | exact HB.out))) : w.heap.size ≤ gb151)); have n3_ := Aside0.mk ((by rw [hg]; exact (below_size (by repeat (first | (with_reducible first | exact HB.out | apply below_alloc | apply pw_below_drewN | apply below_drew1) | exact HB.out))) : w.heap.size ≤ gb151)); clear HB; have HB := n0_; have BK151 := n1_; have GW151 := n2_; have GE151 := n3_; clear n0_ n1_ n2_ n3_; clear hb hbox hg) | ((with_reducible refine gate_callee (f := 44) rfl ?_); refine goesL_ (some 6) rfl rfl Try.func44 (by kernel_rfl) rfl #[.int .i64 a1] rfl (by (try simp only [List.map_toArray, List.map_cons, List.map_nil]); first | done | rfl | (simp only [List.length_drop, List.length_take]; rfl)) ?_; (with_reducible refine (reach_is.calls a1 true _ A3.out).mono ?_); rintro e w' ⟨rfl, ⟨nd, rfl⟩⟩; refine ⟨_, rfl, ?_⟩; have hcz9_0 : w8.cell? ⟨gb151, 0, none⟩ = some (.string a0_0) := (blk_cell BK151.out 0).trans rfl; have hcz9_1 : w8.cell? ⟨gb151, 1, none⟩ = some (.int .i64 a0_1) := (blk_cell BK151.out 1).trans rfl; have hcz9_2 : w8.cell? ⟨gb151, 2, none⟩ = some (.int .u8 a0_2) := (blk_cell BK151.out 2).trans rfl; have hfz9_0 := blk_frozen BK151.out 0; have hfz9_1 := blk_frozen BK151.out 1; have hfz9_2 := blk_frozen BK151.out 2; have p7 : 0 ≤ (a1 : Int) := of_decide_eq_true (by first | (with_reducible assumption) | assumption); have q7 : a1 < (a0_0.size : Int) := of_decide_eq_true (by first | (with_reducible assumption) | assumption); have hx7 := bt_at a0_0 a1; replace p7 := eq_true p7; replace q7 := eq_true q7))
        go_ret
        exact ⟨by first | rfl | (simp [errW_none, errW_some] <;> rfl) | (simp [*, errW_none, errW_some] <;> rfl), by repeat (first | (with_reducible first | exact HB.out | apply below_alloc | apply pw_below_drewN | apply below_drew1 | refine below_set ?_ GE151.out) | exact HB.out)⟩
      · rw [if_neg c6] at H
        exact absurd H (by simp)
    · rw [if_neg c5] at H
      exact absurd H (by simp)
  · replace c4 := Bool.eq_false_iff.mpr c4
    subst c4
    have H1 : (some false) = some r := by rw [if_neg (show ¬ (false = true) by decide)] at H; exact H
    clear H
    have H := H1
    clear H1
    obtain rfl := Option.some.inj H
    go_enter Try.func93, Try.ntmps93
    go_wp2_with (first | ((with_reducible refine gate_dst (N := 2) rfl ?_); refine box_event ?hg (N := 2) ?hd (cs := #[.string a0_0, .int .i64 a0_1, .int .u8 a0_2]) (t := 53) ?hr ?_; (case hd => rfl); (case hg => rfl); (case hr => first | (go_simp; done) | (go_simp; rfl)); intro gb151 hg w10 hbox hb; have n0_ := Aside0.mk (below_step (by repeat (first | (with_reducible first | exact HB.out | apply below_alloc | apply pw_below_drewN | apply below_drew1) | exact HB.out)) hb); have n1_ := Aside0.mk (hbox); have n2_ := Aside0.mk ((by rw [hg]; exact (below_size (by repeat (first | (with_reducible first | exact HB.out | apply below_alloc | apply pw_below_drewN | apply below_drew1) | exact HB.out))) : w.heap.size ≤ gb151)); have n3_ := Aside0.mk ((by rw [hg]; exact (below_size (by repeat (first | (with_reducible first | exact HB.out | apply below_alloc | apply pw_below_drewN | apply below_drew1) | exact HB.out))) : w.heap.size ≤ gb151)); clear HB; have HB := n0_; have BK151 := n1_; have GW151 := n2_; have GE151 := n3_; clear n0_ n1_ n2_ n3_; clear hb hbox hg) | ((with_reducible refine gate_callee (f := 44) rfl ?_); refine goesL_ (some 6) rfl rfl Try.func44 (by kernel_rfl) rfl #[.int .i64 a1] rfl (by (try simp only [List.map_toArray, List.map_cons, List.map_nil]); first | done | rfl | (simp only [List.length_drop, List.length_take]; rfl)) ?_; (with_reducible refine (reach_is.calls a1 false _ A3.out).mono ?_); rintro e w' ⟨rfl, ⟨nd, rfl⟩⟩; refine ⟨_, rfl, ?_⟩))
    go_ret
    exact ⟨by first | rfl | (simp [errW_none, errW_some] <;> rfl) | (simp [*, errW_none, errW_some] <;> rfl), by repeat (first | (with_reducible first | exact HB.out | apply below_alloc | apply pw_below_drewN | apply below_drew1 | refine below_set ?_ GE151.out) | exact HB.out)⟩

end Go.Proofs.Ytcanbidenhcohaa.P

/- Walks of Go functions, one Lean function and one contract for each, written by a program of this session out of the translation. -/
namespace Go.Proofs.Ytcanbidenhcohaa.P
open Go.RowKit Go.Proofs.YtcanbidenhcohaaW.PrintWords Go.Proofs.YtcanbidenhcohaaW.PrintLast Go.Proofs.YtcanbidenhcohaaW.PrintMore
attribute [local go_sem] max2_int min2_int max_two min_two max_three min_three max_four min_four   -- for this text's walks alone
set_option linter.unusedVariables false
set_option linter.unusedSimpArgs false

/-! ### reach_view_horse: function 73 -/
def reach_view_horse.l0 : Nat → List Int → List (S81) → Int → Int → ByteArray → Int → Int → Option (List Int)
  | 0, _, _, _, _, _, _, _ => none
  | k + 1, x3, x10, x11, x12, x154000, x154001, x154002 => if x12 < x11 then (if 0 ≤ x12 then (if x12 < (x10.length : Int) then ((reach_view_step.f x154000 x154001 x154002 ((rd_T81 x10 x12).f0) ((rd_T81 x10 x12).f1)).bind fun t159 => ((reach_view_empty.f x154000 x154001 x154002 t159).bind fun t160 => (if t160 = true then ((reach_view_step.f x154000 x154001 x154002 (wrap64 ((wrap64 (2 * ((rd_T81 x10 x12).f0))) + ((rd_T81 x10 x12).f1))) (wrap64 ((wrap64 (2 * ((rd_T81 x10 x12).f1))) + ((rd_T81 x10 x12).f0)))).bind fun t161 => ((reach_view_step.f x154000 x154001 x154002 (wrap64 ((wrap64 (2 * ((rd_T81 x10 x12).f0))) - ((rd_T81 x10 x12).f1))) (wrap64 ((wrap64 (2 * ((rd_T81 x10 x12).f1))) - ((rd_T81 x10 x12).f0)))).bind fun t162 => ((some (([t161, t162] : List Int) : List Int)).bind fun y163 => (if x3.length + y163.length < 17592186044416 then (reach_view_horse.l0 k (x3 ++ y163) x10 x11 (wrap64 (x12 + 1)) x154000 x154001 x154002) else (none))))) else (reach_view_horse.l0 k x3 x10 x11 (wrap64 (x12 + 1)) x154000 x154001 x154002)))) else (none)) else (none)) else (some x3)
def reach_view_horse.f (k : Nat) (a0_0 : ByteArray) (a0_1 : Int) (a0_2 : Int) : Option (List Int) := (some (([(⟨1, 0⟩ : S81), (⟨(-1), 0⟩ : S81), (⟨0, 1⟩ : S81), (⟨0, (-1)⟩ : S81)] : List (S81)) : List (S81))).bind fun y154 => (reach_view_horse.l0 k ([] : List Int) y154 (y154.length : Int) 0 a0_0 a0_1 a0_2)
theorem reach_view_horse.mono_l : ∀ k, (∀ y0 y1 y2 y3 y4 y5 y6, LeO (reach_view_horse.l0 k y0 y1 y2 y3 y4 y5 y6) (reach_view_horse.l0 (k + 1) y0 y1 y2 y3 y4 y5 y6))
  | 0 => fun _ _ _ _ _ _ _ r h => by simp [reach_view_horse.l0] at h
  | k + 1 => by
    have ih0 := reach_view_horse.mono_l k
    · intro y0 y1 y2 y3 y4 y5 y6
      unfold reach_view_horse.l0
      repeat' first
      | (with_reducible exact ih0 _ _ _ _ _ _ _)
      | (with_reducible exact LeO.refl _)
      | (with_reducible exact LeO.none _)
      | (with_reducible refine LeO.ite ?_ ?_)
      | (with_reducible refine LeO.bind ?_ (fun _ => ?_))
      | exact ih0 _ _ _ _ _ _ _
      | exact LeO.none _
      | refine LeO.ite ?_ ?_
      | refine LeO.bind ?_ (fun _ => ?_)
theorem reach_view_horse.mono : ∀ a0 a1 a2 k, LeO (reach_view_horse.f k a0 a1 a2) (reach_view_horse.f (k + 1) a0 a1 a2) := by
  intro a0 a1 a2 k
  have ih0 := reach_view_horse.mono_l k
  unfold reach_view_horse.f
  repeat' first
      | (with_reducible exact ih0 _ _ _ _ _ _ _)
      | (with_reducible exact LeO.refl _)
      | (with_reducible exact LeO.none _)
      | (with_reducible refine LeO.ite ?_ ?_)
      | (with_reducible refine LeO.bind ?_ (fun _ => ?_))
      | exact ih0 _ _ _ _ _ _ _
      | exact LeO.none _
      | refine LeO.ite ?_ ?_
      | refine LeO.bind ?_ (fun _ => ?_)
def reach_view_horse.T5 : Bool × List (List Nat × List Nat) := (true, [([], []), ([], []), ([], []), ([2], [2]), ([], []), ([4], [4]), ([1, 3, 5], [1, 3, 5]), ([0, 6, 6], [0, 6])])
def reach_view_horse.B5 : List Nat := [0, 0, 0, 4, 0, 16, 62, 127]
theorem reach_view_horse.tab5 : rtab .any (opsOf Try.f73 5) = reach_view_horse.T5 := by kernel_rfl
theorem reach_view_horse.bits5 : waitsOk reach_view_horse.T5.2 reach_view_horse.B5 = true := by kernel_rfl
def reach_view_horse.T6 : Bool × List (List Nat × List Nat) := (true, [([], []), ([], []), ([], []), ([2], [2]), ([3], [3]), ([], []), ([5], [5]), ([4, 6], [4, 6]), ([], []), ([8], [8]), ([9], [9]), ([], []), ([11], [11]), ([10, 12], [10, 12]), ([1, 7, 13], [1, 7, 13]), ([], []), ([], []), ([16], [16]), ([17], [17]), ([], []), ([19], [19]), ([18, 20], [18, 20]), ([], []), ([22], [22]), ([23], [23]), ([], []), ([25], [25]), ([24, 26], [24, 26]), ([15, 21, 27, 14], [15, 21, 27]), ([14, 28], [14, 28]), ([0, 29, 28], [0, 29]), ([30, 30, 0, 1, 2, 3, 4, 5, 6, 7, 8, 9, 10, 11, 12, 13, 14, 15, 16, 17, 18, 19, 20, 21, 22, 23, 24, 25, 26, 27, 28, 29, 30], [0, 30])])
def reach_view_horse.B6 : List Nat := [0, 0, 0, 4, 12, 0, 32, 124, 0, 256, 768, 0, 2048, 7936, 16382, 0, 0, 65536, 196608, 0, 524288, 2031616, 0, 4194304, 12582912, 0, 33554432, 130023424, 268435454, 536870910, 1073741823, 2147483647]
theorem reach_view_horse.tab6 : rtab .any (opsOf Try.f73 6) = reach_view_horse.T6 := by kernel_rfl
theorem reach_view_horse.bits6 : waitsOk reach_view_horse.T6.2 reach_view_horse.B6 = true := by kernel_rfl
set_option maxHeartbeats 8000000 in
set_option maxRecDepth 100000 in
theorem reach_view_horse.calls (k : Nat) (a0_0 : ByteArray) (a0_1 : Int) (a0_2 : Int) (r : List Int) (w : World) (h : reach_view_horse.f k a0_0 a0_1 a0_2 = some r) :
    Calls Try.prog 73 #[.agg #[.string a0_0, .int .i64 a0_1, .int .u8 a0_2]] w fun e w' => ∃ v0_ : Value, e = .returned (v0_) ∧ Kd.R (Kd.int .i64) 3 w' w.heap.size (fun _ => True) v0_ r ∧ Below w.heap.size w w' := by
  have hu53 := Try.underlying53
  have hu81 := Try.underlying81
  have HB := Aside0.mk (Below.refl w.heap.size w)
  have H : ((some (([(⟨1, 0⟩ : S81), (⟨(-1), 0⟩ : S81), (⟨0, 1⟩ : S81), (⟨0, (-1)⟩ : S81)] : List (S81)) : List (S81))).bind fun y154 => (reach_view_horse.l0 k ([] : List Int) y154 (y154.length : Int) 0 a0_0 a0_1 a0_2)) = some r := h
  clear h
  obtain ⟨y154, hy154⟩ : ∃ y_ : List (S81), y_ = (([(⟨1, 0⟩ : S81), (⟨(-1), 0⟩ : S81), (⟨0, 1⟩ : S81), (⟨0, (-1)⟩ : S81)] : List (S81))) := ⟨_, rfl⟩
  replace H : (reach_view_horse.l0 k ([] : List Int) y154 (y154.length : Int) 0 a0_0 a0_1 a0_2) = some r := by first | (rw [hy154]; with_reducible exact H) | (have H2_ := (Option.bind_some _ _).symm.trans H; rw [hy154]; with_reducible exact H2_) | (have H2_ := (Option.bind_some _ _).symm.trans H; with_reducible exact H2_) | with_reducible exact H | (rw [hy154]; exact H) | exact H
  have Ny154 := Aside0.mk hy154
  clear hy154
  have H' := Aside0.mk H
  clear H
  go_enter Try.func73, Try.ntmps73
  go_wp2_with (first | ((with_reducible refine gate_dst (N := 1) rfl ?_); refine box_event ?hg (N := 1) ?hd (cs := #[.string a0_0, .int .i64 a0_1, .int .u8 a0_2]) (t := 53) ?hr ?_; (case hd => rfl); (case hg => rfl); (case hr => first | (go_simp; done) | (go_simp; rfl)); intro gb153 hg w2 hbox hb; have n0_ := Aside0.mk (below_step (by repeat (first | (with_reducible first | exact HB.out | apply below_alloc | apply pw_below_drewN | apply below_drew1) | exact HB.out)) hb); have n1_ := Aside0.mk (hbox); have n2_ := Aside0.mk ((by rw [hg]; exact (below_size (by repeat (first | (with_reducible first | exact HB.out | apply below_alloc | apply pw_below_drewN | apply below_drew1) | exact HB.out))) : w.heap.size ≤ gb153)); have n3_ := Aside0.mk ((by rw [hg]; exact (below_size (by repeat (first | (with_reducible first | exact HB.out | apply below_alloc | apply pw_below_drewN | apply below_drew1) | exact HB.out))) : w.heap.size ≤ gb153)); clear HB; have HB := n0_; have BK153 := n1_; have GW153 := n2_; have GE153 := n3_; clear n0_ n1_ n2_ n3_; clear hb hbox hg) | ((with_reducible refine gate_dst (N := 10) rfl ?_); refine Kd.R_lit k81 _ 81 ?hg (N := 10) ?hd (xs := ([(⟨1, 0⟩ : S81), (⟨(-1), 0⟩ : S81), (⟨0, 1⟩ : S81), (⟨0, (-1)⟩ : S81)] : List (S81))) (inner := [.int .i64 1, .int .i64 0, .int .i64 (-1), .int .i64 0, .int .i64 0, .int .i64 1, .int .i64 0, .int .i64 (-1)]) (ok := fun _ => True) (okp := fun _ => True) ?hr ?hp (fun _ hk => hk) trivial (Below.refl _ _) (Nat.le_refl _) (by simp) ?_; (case hd => rfl); (case hg => rfl); (case hr => first | (go_simp; done) | (go_simp; rfl)); (case hp => exact (Reps.c2 (show Kd.M k81 _ _ _ (⟨1, 0⟩ : S81) [.int .i64 1, .int .i64 0] from (k81_mkM _ _ _ (⟨1, 0⟩ : S81) )) (Reps.c2 (show Kd.M k81 _ _ _ (⟨(-1), 0⟩ : S81) [.int .i64 (-1), .int .i64 0] from (k81_mkM _ _ _ (⟨(-1), 0⟩ : S81) )) (Reps.c2 (show Kd.M k81 _ _ _ (⟨0, 1⟩ : S81) [.int .i64 0, .int .i64 1] from (k81_mkM _ _ _ (⟨0, 1⟩ : S81) )) (Reps.c2 (show Kd.M k81 _ _ _ (⟨0, (-1)⟩ : S81) [.int .i64 0, .int .i64 (-1)] from (k81_mkM _ _ _ (⟨0, (-1)⟩ : S81) )) (Reps.none _ _)))))); intro v155 w3 ho4 hb hg_ hnew_; clear hg_ hnew_; (first | rw [← Ny154.out] at ho4 | (simp only [Int.reduceToNat] at ho4; rw [← Ny154.out] at ho4)); have n0_ := Aside0.mk (Kd.R_lower ho4 (below_size (by repeat (first | (with_reducible first | exact HB.out | apply below_alloc | apply pw_below_drewN | apply below_drew1 | refine below_set ?_ GE153.out) | exact HB.out)))); have n1_ := Aside0.mk (blk_below (g := gb153) (o := .cells #[.string a0_0, .int .i64 a0_1, .int .u8 a0_2] 53 (0, 0)) (by (with_reducible repeat (first | refine blk_drewN ?_ _ | refine blk_drew ?_ | refine blk_alloc ?_ _)); exact BK153.out) hb); have n2_ := Aside0.mk (below_step (by repeat (first | (with_reducible first | exact HB.out | apply below_alloc | apply pw_below_drewN | apply below_drew1 | refine below_set ?_ GE153.out) | exact HB.out)) hb); clear BK153; clear HB; have HO156 := n0_; have BK153 := n1_; have HB := n2_; clear n0_ n1_ n2_; clear hb ho4; obtain ⟨Ao5, co5, eo5⟩ := Kd.R_slice HO156.out; subst eo5))
  go_loopg [3, 12] k (fun kq v3 v12 w' => ∃ (x3_1 : List Int) (x12_1 : Int), v12 = .int .i64 x12_1 ∧ Aside0 (reach_view_horse.l0 kq x3_1 y154 (y154.length : Int) x12_1 a0_0 a0_1 a0_2 = some r) ∧ Aside0 (kq ≤ k) ∧ Aside0 (Kd.R (Kd.int .i64) 3 w' w.heap.size (fun _ => True) v3 x3_1) ∧ Aside0 (Kd.R k81 81 w' w.heap.size (fun _ => True) (.slice Ao5 y154.length co5) y154) ∧ Aside0 (w'.heap[gb153]? = some (.cells #[.string a0_0, .int .i64 a0_1, .int .u8 a0_2] 53 (0, 0))) ∧ Aside0 (Below w.heap.size w w'))
  case atStart => exact ⟨(([] : List Int)), (0), (by first | rfl | (simp; done) | (simp [*]; done)), H', ⟨Nat.le_refl _⟩, ⟨by first | exact Kd.R_nil _ _ _ _ _ | exact Kd.N_nil _ _ _ _ _ | exact Kd.V_nil _ _ _ _ _ | exact Kd.Q_nil _ _ _ _ _ | exact Kd.S_nil _ _ _ _ _⟩, ⟨by (with_reducible repeat (first | apply Kd.R_alloc | apply Kd.R_drewN | apply Kd.R_drew)); exact HO156.out⟩, ⟨by (with_reducible repeat (first | refine blk_drewN ?_ _ | refine blk_drew ?_ | refine blk_alloc ?_ _)); exact BK153.out⟩, ⟨by repeat (first | (with_reducible first | exact HB.out | apply below_alloc | apply pw_below_drewN | apply below_drew1 | refine below_set ?_ GE153.out) | exact HB.out)⟩⟩
  case round =>
    clear H'
    try clear c2
    try clear p2
    obtain ⟨x3_1, x12_1, rfl, HA, HK1, HO_3, HO_10, BK153, HB⟩ := hrel
    cases gk with
    | zero => exact absurd HA.out (by simp [reach_view_horse.l0])
    | succ k1 =>
      have H := HA.out
      clear HA
      simp only [reach_view_horse.l0] at H
      by_cases c6 : x12_1 < (y154.length : Int)
      · rw [if_pos c6] at H
        have c6b0 : decide (x12_1 < (y154.length : Int)) = true := decide_eq_true c6
        clear c6
        by_cases c7 : 0 ≤ x12_1
        · rw [if_pos c7] at H
          have c7b0 : decide (0 ≤ x12_1) = true := decide_eq_true c7
          clear c7
          by_cases c8 : x12_1 < (y154.length : Int)
          · rw [if_pos c8] at H
            have c8b0 : decide (x12_1 < (y154.length : Int)) = true := decide_eq_true c8
            clear c8
            replace H := Option.bind_eq_some_iff.mp H
            obtain ⟨t159, A90, H⟩ := H
            replace H : ((reach_view_empty.f a0_0 a0_1 a0_2 t159).bind fun t160 => (if t160 = true then ((reach_view_step.f a0_0 a0_1 a0_2 (wrap64 ((wrap64 (2 * ((rd_T81 y154 x12_1).f0))) + ((rd_T81 y154 x12_1).f1))) (wrap64 ((wrap64 (2 * ((rd_T81 y154 x12_1).f1))) + ((rd_T81 y154 x12_1).f0)))).bind fun t161 => ((reach_view_step.f a0_0 a0_1 a0_2 (wrap64 ((wrap64 (2 * ((rd_T81 y154 x12_1).f0))) - ((rd_T81 y154 x12_1).f1))) (wrap64 ((wrap64 (2 * ((rd_T81 y154 x12_1).f1))) - ((rd_T81 y154 x12_1).f0)))).bind fun t162 => ((some (([t161, t162] : List Int) : List Int)).bind fun y163 => (if x3_1.length + y163.length < 17592186044416 then (reach_view_horse.l0 k1 (x3_1 ++ y163) y154 (y154.length : Int) (wrap64 (x12_1 + 1)) a0_0 a0_1 a0_2) else (none))))) else (reach_view_horse.l0 k1 x3_1 y154 (y154.length : Int) (wrap64 (x12_1 + 1)) a0_0 a0_1 a0_2))) = some r := H
            have A9 := Aside0.mk A90
            clear A90
            replace H := Option.bind_eq_some_iff.mp H
            obtain ⟨t160, A100, H⟩ := H
            replace H : (if t160 = true then ((reach_view_step.f a0_0 a0_1 a0_2 (wrap64 ((wrap64 (2 * ((rd_T81 y154 x12_1).f0))) + ((rd_T81 y154 x12_1).f1))) (wrap64 ((wrap64 (2 * ((rd_T81 y154 x12_1).f1))) + ((rd_T81 y154 x12_1).f0)))).bind fun t161 => ((reach_view_step.f a0_0 a0_1 a0_2 (wrap64 ((wrap64 (2 * ((rd_T81 y154 x12_1).f0))) - ((rd_T81 y154 x12_1).f1))) (wrap64 ((wrap64 (2 * ((rd_T81 y154 x12_1).f1))) - ((rd_T81 y154 x12_1).f0)))).bind fun t162 => ((some (([t161, t162] : List Int) : List Int)).bind fun y163 => (if x3_1.length + y163.length < 17592186044416 then (reach_view_horse.l0 k1 (x3_1 ++ y163) y154 (y154.length : Int) (wrap64 (x12_1 + 1)) a0_0 a0_1 a0_2) else (none))))) else (reach_view_horse.l0 k1 x3_1 y154 (y154.length : Int) (wrap64 (x12_1 + 1)) a0_0 a0_1 a0_2)) = some r := H
            have A10 := Aside0.mk A100
            clear A100
            by_cases c11 : t160 = true
            · subst c11
              have H1 : ((reach_view_step.f a0_0 a0_1 a0_2 (wrap64 ((wrap64 (2 * ((rd_T81 y154 x12_1).f0))) + ((rd_T81 y154 x12_1).f1))) (wrap64 ((wrap64 (2 * ((rd_T81 y154 x12_1).f1))) + ((rd_T81 y154 x12_1).f0)))).bind fun t161 => ((reach_view_step.f a0_0 a0_1 a0_2 (wrap64 ((wrap64 (2 * ((rd_T81 y154 x12_1).f0))) - ((rd_T81 y154 x12_1).f1))) (wrap64 ((wrap64 (2 * ((rd_T81 y154 x12_1).f1))) - ((rd_T81 y154 x12_1).f0)))).bind fun t162 => ((some (([t161, t162] : List Int) : List Int)).bind fun y163 => (if x3_1.length + y163.length < 17592186044416 then (reach_view_horse.l0 k1 (x3_1 ++ y163) y154 (y154.length : Int) (wrap64 (x12_1 + 1)) a0_0 a0_1 a0_2) else (none))))) = some r := by rw [if_pos rfl] at H; exact H
              clear H
              have H := H1
              clear H1
              replace H := Option.bind_eq_some_iff.mp H
              obtain ⟨t161, A120, H⟩ := H
              replace H : ((reach_view_step.f a0_0 a0_1 a0_2 (wrap64 ((wrap64 (2 * ((rd_T81 y154 x12_1).f0))) - ((rd_T81 y154 x12_1).f1))) (wrap64 ((wrap64 (2 * ((rd_T81 y154 x12_1).f1))) - ((rd_T81 y154 x12_1).f0)))).bind fun t162 => ((some (([t161, t162] : List Int) : List Int)).bind fun y163 => (if x3_1.length + y163.length < 17592186044416 then (reach_view_horse.l0 k1 (x3_1 ++ y163) y154 (y154.length : Int) (wrap64 (x12_1 + 1)) a0_0 a0_1 a0_2) else (none)))) = some r := H
              have A12 := Aside0.mk A120
              clear A120
              replace H := Option.bind_eq_some_iff.mp H
              obtain ⟨t162, A130, H⟩ := H
              replace H : ((some (([t161, t162] : List Int) : List Int)).bind fun y163 => (if x3_1.length + y163.length < 17592186044416 then (reach_view_horse.l0 k1 (x3_1 ++ y163) y154 (y154.length : Int) (wrap64 (x12_1 + 1)) a0_0 a0_1 a0_2) else (none))) = some r := H
              have A13 := Aside0.mk A130
              clear A130
              obtain ⟨y163, hy163⟩ : ∃ y_ : List Int, y_ = (([t161, t162] : List Int)) := ⟨_, rfl⟩
              replace H : (if x3_1.length + y163.length < 17592186044416 then (reach_view_horse.l0 k1 (x3_1 ++ y163) y154 (y154.length : Int) (wrap64 (x12_1 + 1)) a0_0 a0_1 a0_2) else (none)) = some r := by first | (rw [hy163]; with_reducible exact H) | (have H2_ := (Option.bind_some _ _).symm.trans H; rw [hy163]; with_reducible exact H2_) | (have H2_ := (Option.bind_some _ _).symm.trans H; with_reducible exact H2_) | with_reducible exact H | (rw [hy163]; exact H) | exact H
              have Ny163 := Aside0.mk hy163
              clear hy163
              by_cases c14 : x3_1.length + y163.length < 17592186044416
              · rw [if_pos c14] at H
                have LMc14 := Aside0.mk c14
                clear c14
                obtain ⟨y166, hy166⟩ : ∃ y_ : List Int, y_ = (x3_1 ++ y163) := ⟨_, rfl⟩
                replace H : (reach_view_horse.l0 k1 y166 y154 (y154.length : Int) (wrap64 (x12_1 + 1)) a0_0 a0_1 a0_2) = some r := by first | (rw [hy166]; with_reducible exact H) | (have H2_ := (Option.bind_some _ _).symm.trans H; rw [hy166]; with_reducible exact H2_) | (have H2_ := (Option.bind_some _ _).symm.trans H; with_reducible exact H2_) | with_reducible exact H | (rw [hy166]; exact H) | exact H
                have Ny166 := Aside0.mk hy166
                clear hy166
                have H' := Aside0.mk H
                clear H
                have p157 : 0 ≤ (x12_1 : Int) := of_decide_eq_true (by first | (with_reducible assumption) | assumption)
                have q157 : x12_1 < (y154.length : Int) := of_decide_eq_true (by first | (with_reducible assumption) | assumption)
                obtain ⟨ad157, e157, hx157_0, hx157_1⟩ := at_T81 (Kd.R_reads' HO_10.out).2.2 x12_1 p157 q157
                cases e157
                replace p157 := eq_true p157
                replace q157 := eq_true q157
                try go_wp2_with (first | ((with_reducible refine gate_dst (N := 5) rfl ?_); refine box_event ?hg (N := 5) ?hd (cs := #[.int .i64 0, .int .i64 0]) (t := 81) ?hr ?_; (case hd => rfl); (case hg => rfl); (case hr => first | (go_simp; done) | (go_simp; rfl)); intro gb158 hg w15 hbox hb; have n0_ := Aside0.mk (Kd.R_below (by (with_reducible repeat (first | apply Kd.R_alloc | apply Kd.R_drewN | apply Kd.R_drew)); exact HO_3.out) hb); have n1_ := Aside0.mk (Kd.R_below (Kd.R_elderB (by (with_reducible repeat (first | apply Kd.R_alloc | apply Kd.R_drewN | apply Kd.R_drew)); exact HO_10.out) gb158 (Nat.le_of_eq hg.symm)) hb); have n2_ := Aside0.mk (blk_below (g := gb153) (o := .cells #[.string a0_0, .int .i64 a0_1, .int .u8 a0_2] 53 (0, 0)) (by (with_reducible repeat (first | refine blk_drewN ?_ _ | refine blk_drew ?_ | refine blk_alloc ?_ _)); exact BK153.out) hb); have n3_ := Aside0.mk (below_step (by repeat (first | (with_reducible first | exact HB.out | apply below_alloc | apply pw_below_drewN | apply below_drew1 | refine below_set ?_ GE153.out) | exact HB.out)) hb); have n4_ := Aside0.mk (hbox); have n5_ := Aside0.mk ((by rw [hg]; exact (below_size (by repeat (first | (with_reducible first | exact HB.out | apply below_alloc | apply pw_below_drewN | apply below_drew1 | refine below_set ?_ GE153.out) | exact HB.out))) : w.heap.size ≤ gb158)); have n6_ := Aside0.mk ((by rw [hg]; exact (below_size (by repeat (first | (with_reducible first | exact HB.out | apply below_alloc | apply pw_below_drewN | apply below_drew1 | refine below_set ?_ GE153.out) | exact HB.out))) : w.heap.size ≤ gb158)); have n7_ := Aside0.mk ((by rw [hg]; exact Nat.ne_of_lt (blk_lt (g := gb153) (o := .cells #[.string a0_0, .int .i64 a0_1, .int .u8 a0_2] 53 (0, 0)) (by (with_reducible repeat (first | refine blk_drewN ?_ _ | refine blk_drew ?_ | refine blk_alloc ?_ _)); exact BK153.out)) : gb153 ≠ gb158)); have n8_ := Aside0.mk ((by rw [hg]; exact Nat.ne_of_gt (blk_lt (g := gb153) (o := .cells #[.string a0_0, .int .i64 a0_1, .int .u8 a0_2] 53 (0, 0)) (by (with_reducible repeat (first | refine blk_drewN ?_ _ | refine blk_drew ?_ | refine blk_alloc ?_ _)); exact BK153.out)) : gb158 ≠ gb153)); clear HO_3; clear HO_10; clear BK153; clear HB; have HO_3 := n0_; have HO_10 := n1_; have BK153 := n2_; have HB := n3_; have BK158 := n4_; have GW158 := n5_; have GE158 := n6_; have NB153_158 := n7_; have NB158_153 := n8_; clear n0_ n1_ n2_ n3_ n4_ n5_ n6_ n7_ n8_; clear hb hbox hg; have hnb16 := NB158_153.out; have hnc16 := NB153_158.out; have hcz17_0 : w15.cell? ⟨gb158, 0, none⟩ = some (.int .i64 0) := (blk_cell BK158.out 0).trans rfl; have hcz17_1 : w15.cell? ⟨gb158, 1, none⟩ = some (.int .i64 0) := (blk_cell BK158.out 1).trans rfl; have hfz17_0 := blk_frozen BK158.out 0; have hfz17_1 := blk_frozen BK158.out 1))
                have n0_ : Aside0 (Kd.R (Kd.int .i64) 3 ((w15.setCell ⟨gb158, 0, none⟩ (.int .i64 ((rd_T81 y154 x12_1).f0))).setCell ⟨gb158, 1, none⟩ (.int .i64 ((rd_T81 y154 x12_1).f1))) w.heap.size (fun _ => True) u3 x3_1) := ⟨by (with_reducible repeat (first | apply Kd.R_alloc | apply Kd.R_drewN | apply Kd.R_drew)); exact Kd.R_mono (Kd.R_far (p := ⟨gb158, 1, none⟩) (Kd.R_far (p := ⟨gb158, 0, none⟩) (Kd.R_types HO_3.out BK158.out (by decide)) (fun _ hk => hk.2) (.int .i64 ((rd_T81 y154 x12_1).f0))) (fun _ hk => hk.2) (.int .i64 ((rd_T81 y154 x12_1).f1))) (fun _ hk => trivial)⟩
                have n1_ : Aside0 (Kd.R k81 81 ((w15.setCell ⟨gb158, 0, none⟩ (.int .i64 ((rd_T81 y154 x12_1).f0))).setCell ⟨gb158, 1, none⟩ (.int .i64 ((rd_T81 y154 x12_1).f1))) w.heap.size (fun k_ => k_ ≠ gb158) (.slice (some ad157) y154.length co5) y154) := ⟨by (with_reducible repeat (first | apply Kd.R_alloc | apply Kd.R_drewN | apply Kd.R_drew)); exact Kd.R_mono (Kd.R_far (p := ⟨gb158, 1, none⟩) (Kd.R_far (p := ⟨gb158, 0, none⟩) (Kd.R_mono HO_10.out (fun k_ hk => (⟨hk, hk.2⟩ : _ ∧ k_ ≠ gb158))) (fun _ hk => hk.2) (.int .i64 ((rd_T81 y154 x12_1).f0))) (fun _ hk => hk.2) (.int .i64 ((rd_T81 y154 x12_1).f1))) (fun _ hk => hk.1.2)⟩
                have n2_ : Aside0 (((w15.setCell ⟨gb158, 0, none⟩ (.int .i64 ((rd_T81 y154 x12_1).f0))).setCell ⟨gb158, 1, none⟩ (.int .i64 ((rd_T81 y154 x12_1).f1))).heap[gb153]? = some (.cells #[.string a0_0, .int .i64 a0_1, .int .u8 a0_2] 53 (0, 0))) := ⟨by (with_reducible repeat (first | refine blk_drewN ?_ _ | refine blk_drew ?_ | refine blk_alloc ?_ _)); refine blk_far ?_ NB153_158.out _; (with_reducible repeat (first | refine blk_drewN ?_ _ | refine blk_drew ?_ | refine blk_alloc ?_ _)); refine blk_far ?_ NB153_158.out _; (with_reducible repeat (first | refine blk_drewN ?_ _ | refine blk_drew ?_ | refine blk_alloc ?_ _)); exact BK153.out⟩
                have n3_ : Aside0 (((w15.setCell ⟨gb158, 0, none⟩ (.int .i64 ((rd_T81 y154 x12_1).f0))).setCell ⟨gb158, 1, none⟩ (.int .i64 ((rd_T81 y154 x12_1).f1))).heap[gb158]? = some (.cells #[.int .i64 ((rd_T81 y154 x12_1).f0), .int .i64 ((rd_T81 y154 x12_1).f1)] 81 (0, 0))) := ⟨by (with_reducible repeat (first | refine blk_drewN ?_ _ | refine blk_drew ?_ | refine blk_alloc ?_ _)); refine blk_put (cs := #[.int .i64 ((rd_T81 y154 x12_1).f0), .int .i64 0]) ?_ 1 _ rfl; (with_reducible repeat (first | refine blk_drewN ?_ _ | refine blk_drew ?_ | refine blk_alloc ?_ _)); refine blk_put (cs := #[.int .i64 0, .int .i64 0]) ?_ 0 _ rfl; (with_reducible repeat (first | refine blk_drewN ?_ _ | refine blk_drew ?_ | refine blk_alloc ?_ _)); exact BK158.out⟩
                have n4_ : Aside0 (Below w.heap.size w ((w15.setCell ⟨gb158, 0, none⟩ (.int .i64 ((rd_T81 y154 x12_1).f0))).setCell ⟨gb158, 1, none⟩ (.int .i64 ((rd_T81 y154 x12_1).f1)))) := ⟨by repeat (first | (with_reducible first | exact HB.out | apply below_alloc | apply pw_below_drewN | apply below_drew1 | refine below_set ?_ GE153.out | refine below_set ?_ GE158.out) | exact HB.out)⟩
                (try clear HO_3)
                (try clear HO_10)
                (try clear BK153)
                (try clear BK158)
                (try clear HB)
                generalize ((w15.setCell ⟨gb158, 0, none⟩ (.int .i64 ((rd_T81 y154 x12_1).f0))).setCell ⟨gb158, 1, none⟩ (.int .i64 ((rd_T81 y154 x12_1).f1))) = w18 at n0_ n1_ n2_ n3_ n4_ ⊢
                have HO_3 := n0_
                have HO_10 := n1_
                have BK153 := n2_
                have BK158 := n3_
                have HB := n4_
                clear n0_ n1_ n2_ n3_ n4_
                have n0_ := Aside0.mk (Kd.R_drew HO_3.out)
                have n1_ := Aside0.mk (Kd.R_drew HO_10.out)
                have n2_ := Aside0.mk (blk_drew BK153.out)
                have n3_ := Aside0.mk (blk_drew BK158.out)
                have n4_ := Aside0.mk (below_drew1 HB.out)
                clear HO_3
                clear HO_10
                clear BK153
                clear BK158
                clear HB
                have HO_3 := n0_
                have HO_10 := n1_
                have BK153 := n2_
                have BK158 := n3_
                have HB := n4_
                clear n0_ n1_ n2_ n3_ n4_
                refine start_ (n := 8) (S := fun w' => w'.cell? ⟨gb153, 0, none⟩ = some (.string a0_0) ∧ w'.cell? ⟨gb153, 1, none⟩ = some (.int .i64 a0_1) ∧ w'.cell? ⟨gb153, 2, none⟩ = some (.int .u8 a0_2) ∧ w'.cell? ⟨gb158, 0, none⟩ = some (.int .i64 ((rd_T81 y154 x12_1).f0)) ∧ w'.cell? ⟨gb158, 1, none⟩ = some (.int .i64 ((rd_T81 y154 x12_1).f1))) (ds := []) #[false, false, false, false, false, false, false, false] (by kernel_rfl) rfl rfl ⟨(blk_cell BK153.out 0).trans rfl, (blk_cell BK153.out 1).trans rfl, (blk_cell BK153.out 2).trans rfl, (blk_cell BK158.out 0).trans rfl, (blk_cell BK158.out 1).trans rfl⟩ (fun hHeld => ?_); refine with_tabW reach_view_horse.tab5 reach_view_horse.bits5 (fun HT_ HW_ => ?_)
                generalize w18.drew = w19 at HO_3 HO_10 BK153 BK158 HB hHeld ⊢
                refine pure_ (i := 2) (N := some 18) (v := ?_) (a' := ?_) #[false, false, true, false, false, false, false, false] rfl rfl (any_of HT_.out (by kernel_rfl)) (fun _ _ _ h => h) (Or.inl ⟨by rfl, ?_⟩) ?_ ?_
                rotate_left
                · intro w'
                  go_simp
                  with_reducible rfl
                rotate_left
                · simp only [Act.put, List.setIfInBounds_toArray, List.set_cons_zero, List.set_cons_succ, i64_w, i32_w]
                  rfl
                refine pure_ (i := 4) (N := some 20) (v := ?_) (a' := ?_) #[false, false, true, false, true, false, false, false] rfl rfl (any_of HT_.out (by kernel_rfl)) (fun _ _ _ h => h) (Or.inl ⟨by rfl, ?_⟩) ?_ ?_
                rotate_left
                · intro w'
                  go_simp
                  with_reducible rfl
                rotate_left
                · simp only [Act.put, List.setIfInBounds_toArray, List.set_cons_zero, List.set_cons_succ, i64_w, i32_w]
                  rfl
                refine take_ (i := 0) (N := some 16) (v := ?_) (a' := ?_) #[true, false, true, false, true, false, false, false] rfl rfl (take_ofW HT_.out HW_.out (by kernel_rfl)) (fun _ _ _ h => h) (Or.inl ⟨by rfl, ?_⟩) hHeld ?_ ?_
                rotate_left
                · rintro w' ⟨s0, s1, s2, s3, s4⟩
                  go_simp
                  with_reducible rfl
                rotate_left
                · simp only [Act.put, List.setIfInBounds_toArray, List.set_cons_zero, List.set_cons_succ, i64_w, i32_w]
                  rfl
                refine take_ (i := 1) (N := some 17) (v := ?_) (a' := ?_) #[true, true, true, false, true, false, false, false] rfl rfl (take_ofW HT_.out HW_.out (by kernel_rfl)) (fun _ _ _ h => h) (Or.inl ⟨by rfl, ?_⟩) hHeld ?_ ?_
                rotate_left
                · rintro w' ⟨s0, s1, s2, s3, s4⟩
                  go_simp
                  with_reducible rfl
                rotate_left
                · simp only [Act.put, List.setIfInBounds_toArray, List.set_cons_zero, List.set_cons_succ, i64_w, i32_w]
                  rfl
                refine take_ (i := 3) (N := some 19) (v := ?_) (a' := ?_) #[true, true, true, true, true, false, false, false] rfl rfl (take_ofW HT_.out HW_.out (by kernel_rfl)) (fun _ _ _ h => h) (Or.inl ⟨by rfl, ?_⟩) hHeld ?_ ?_
                rotate_left
                · rintro w' ⟨s0, s1, s2, s3, s4⟩
                  go_simp
                  with_reducible rfl
                rotate_left
                · simp only [Act.put, List.setIfInBounds_toArray, List.set_cons_zero, List.set_cons_succ, i64_w, i32_w]
                  rfl
                refine take_ (i := 5) (N := some 21) (v := ?_) (a' := ?_) #[true, true, true, true, true, true, false, false] rfl rfl (take_ofW HT_.out HW_.out (by kernel_rfl)) (fun _ _ _ h => h) (Or.inl ⟨by rfl, ?_⟩) hHeld ?_ ?_
                rotate_left
                · rintro w' ⟨s0, s1, s2, s3, s4⟩
                  go_simp
                  with_reducible rfl
                rotate_left
                · simp only [Act.put, List.setIfInBounds_toArray, List.set_cons_zero, List.set_cons_succ, i64_w, i32_w]
                  rfl
                refine one_ (i := 6) (N := some 22) #[true, true, true, true, true, true, true, false] rfl rfl (one_of HT_.out (by kernel_rfl)) (by decide) (fun K hK => ?_)
                refine goes_ Try.func94 (by kernel_rfl) rfl #[.agg #[.string a0_0, .int .i64 a0_1, .int .u8 a0_2], .int .i64 ((rd_T81 y154 x12_1).f0), .int .i64 ((rd_T81 y154 x12_1).f1)] (by rfl) rfl rfl (by (try simp only [List.map_toArray, List.map_cons, List.map_nil]); first | done | rfl | (simp only [List.length_drop, List.length_take]; rfl)) ?_
                with_reducible refine (reach_view_step.calls a0_0 a0_1 a0_2 ((rd_T81 y154 x12_1).f0) ((rd_T81 y154 x12_1).f1) t159 _ A9.out).mono ?_
                rintro e w20 ⟨rfl, hb⟩
                refine ⟨_, rfl, ?_⟩
                have n0_ := Aside0.mk (Kd.R_below (by (with_reducible repeat (first | apply Kd.R_alloc | apply Kd.R_drewN | apply Kd.R_drew)); exact HO_3.out) hb)
                have n1_ := Aside0.mk (Kd.R_below (by (with_reducible repeat (first | apply Kd.R_alloc | apply Kd.R_drewN | apply Kd.R_drew)); exact HO_10.out) hb)
                have n2_ := Aside0.mk (blk_below (g := gb153) (o := .cells #[.string a0_0, .int .i64 a0_1, .int .u8 a0_2] 53 (0, 0)) (by (with_reducible repeat (first | refine blk_drewN ?_ _ | refine blk_drew ?_ | refine blk_alloc ?_ _)); exact BK153.out) hb)
                have n3_ := Aside0.mk (blk_below (g := gb158) (o := .cells #[.int .i64 ((rd_T81 y154 x12_1).f0), .int .i64 ((rd_T81 y154 x12_1).f1)] 81 (0, 0)) (by (with_reducible repeat (first | refine blk_drewN ?_ _ | refine blk_drew ?_ | refine blk_alloc ?_ _)); exact BK158.out) hb)
                have n4_ := Aside0.mk (below_step (by repeat (first | (with_reducible first | exact HB.out | apply below_alloc | apply pw_below_drewN | apply below_drew1 | refine below_set ?_ GE153.out | refine below_set ?_ GE158.out) | exact HB.out)) hb)
                clear HO_3
                clear HO_10
                clear BK153
                clear BK158
                clear HB
                have HO_3 := n0_
                have HO_10 := n1_
                have BK153 := n2_
                have BK158 := n3_
                have HB := n4_
                clear n0_ n1_ n2_ n3_ n4_
                (try clear hb)
                (try clear hb2)
                (try clear hk)
                (try clear hi)
                refine hK.out _ _ ⟨(blk_cell BK153.out 0).trans rfl, (blk_cell BK153.out 1).trans rfl, (blk_cell BK153.out 2).trans rfl, (blk_cell BK158.out 0).trans rfl, (blk_cell BK158.out 1).trans rfl⟩ (fun hHeld => ?_)
                clear hK K
                refine norm_ (a' := ?_) ?_ ?_
                rotate_left
                · show Act.put _ (some 22) _ = _
                  simp only [Act.put, List.setIfInBounds_toArray, List.set_cons_zero, List.set_cons_succ, i64_w, i32_w]
                  rfl
                refine one_ (i := 7) (N := some 23) #[true, true, true, true, true, true, true, true] rfl rfl (one_of HT_.out (by kernel_rfl)) (by decide) (fun K hK => ?_)
                refine goes_ Try.func93 (by kernel_rfl) rfl #[.agg #[.string a0_0, .int .i64 a0_1, .int .u8 a0_2], .int .i64 t159] (by rfl) rfl rfl (by (try simp only [List.map_toArray, List.map_cons, List.map_nil]); first | done | rfl | (simp only [List.length_drop, List.length_take]; rfl)) ?_
                with_reducible refine (reach_view_empty.calls a0_0 a0_1 a0_2 t159 true _ A10.out).mono ?_
                rintro e w21 ⟨rfl, hb⟩
                refine ⟨_, rfl, ?_⟩
                have n0_ := Aside0.mk (Kd.R_below (by (with_reducible repeat (first | apply Kd.R_alloc | apply Kd.R_drewN | apply Kd.R_drew)); exact HO_3.out) hb)
                have n1_ := Aside0.mk (Kd.R_below (by (with_reducible repeat (first | apply Kd.R_alloc | apply Kd.R_drewN | apply Kd.R_drew)); exact HO_10.out) hb)
                have n2_ := Aside0.mk (blk_below (g := gb153) (o := .cells #[.string a0_0, .int .i64 a0_1, .int .u8 a0_2] 53 (0, 0)) (by (with_reducible repeat (first | refine blk_drewN ?_ _ | refine blk_drew ?_ | refine blk_alloc ?_ _)); exact BK153.out) hb)
                have n3_ := Aside0.mk (blk_below (g := gb158) (o := .cells #[.int .i64 ((rd_T81 y154 x12_1).f0), .int .i64 ((rd_T81 y154 x12_1).f1)] 81 (0, 0)) (by (with_reducible repeat (first | refine blk_drewN ?_ _ | refine blk_drew ?_ | refine blk_alloc ?_ _)); exact BK158.out) hb)
                have n4_ := Aside0.mk (below_step (by repeat (first | (with_reducible first | exact HB.out | apply below_alloc | apply pw_below_drewN | apply below_drew1 | refine below_set ?_ GE153.out | refine below_set ?_ GE158.out) | exact HB.out)) hb)
                clear HO_3
                clear HO_10
                clear BK153
                clear BK158
                clear HB
                have HO_3 := n0_
                have HO_10 := n1_
                have BK153 := n2_
                have BK158 := n3_
                have HB := n4_
                clear n0_ n1_ n2_ n3_ n4_
                (try clear hb)
                (try clear hb2)
                (try clear hk)
                (try clear hi)
                refine hK.out _ _ ⟨(blk_cell BK153.out 0).trans rfl, (blk_cell BK153.out 1).trans rfl, (blk_cell BK153.out 2).trans rfl, (blk_cell BK158.out 0).trans rfl, (blk_cell BK158.out 1).trans rfl⟩ (fun hHeld => ?_)
                clear hK K
                refine norm_ (a' := ?_) ?_ ?_
                rotate_left
                · show Act.put _ (some 23) _ = _
                  simp only [Act.put, List.setIfInBounds_toArray, List.set_cons_zero, List.set_cons_succ, i64_w, i32_w]
                  rfl
                refine done_ (done_of HT_.out (by kernel_rfl)) ?_
                try go_wp2
                have n0_ := Aside0.mk (Kd.R_drew HO_3.out)
                have n1_ := Aside0.mk (Kd.R_drew HO_10.out)
                have n2_ := Aside0.mk (blk_drew BK153.out)
                have n3_ := Aside0.mk (blk_drew BK158.out)
                have n4_ := Aside0.mk (below_drew1 HB.out)
                clear HO_3
                clear HO_10
                clear BK153
                clear BK158
                clear HB
                have HO_3 := n0_
                have HO_10 := n1_
                have BK153 := n2_
                have BK158 := n3_
                have HB := n4_
                clear n0_ n1_ n2_ n3_ n4_
                refine start_ (n := 32) (S := fun w' => w'.cell? ⟨gb153, 0, none⟩ = some (.string a0_0) ∧ w'.cell? ⟨gb153, 1, none⟩ = some (.int .i64 a0_1) ∧ w'.cell? ⟨gb153, 2, none⟩ = some (.int .u8 a0_2) ∧ w'.cell? ⟨gb158, 0, none⟩ = some (.int .i64 ((rd_T81 y154 x12_1).f0)) ∧ w'.cell? ⟨gb158, 1, none⟩ = some (.int .i64 ((rd_T81 y154 x12_1).f1))) (ds := []) #[false, false, false, false, false, false, false, false, false, false, false, false, false, false, false, false, false, false, false, false, false, false, false, false, false, false, false, false, false, false, false, false] (by kernel_rfl) rfl rfl ⟨(blk_cell BK153.out 0).trans rfl, (blk_cell BK153.out 1).trans rfl, (blk_cell BK153.out 2).trans rfl, (blk_cell BK158.out 0).trans rfl, (blk_cell BK158.out 1).trans rfl⟩ (fun hHeld => ?_); refine with_tabW reach_view_horse.tab6 reach_view_horse.bits6 (fun HT_ HW_ => ?_)
                generalize w21.drew = w22 at HO_3 HO_10 BK153 BK158 HB hHeld ⊢
                refine pure_ (i := 0) (N := some 24) (v := ?_) (a' := ?_) #[true, false, false, false, false, false, false, false, false, false, false, false, false, false, false, false, false, false, false, false, false, false, false, false, false, false, false, false, false, false, false, false] rfl rfl (any_of HT_.out (by kernel_rfl)) (fun _ _ _ h => h) (Or.inl ⟨by rfl, ?_⟩) ?_ ?_
                rotate_left
                · intro w'
                  go_simp
                  with_reducible rfl
                rotate_left
                · simp only [Act.put, List.setIfInBounds_toArray, List.set_cons_zero, List.set_cons_succ, i64_w, i32_w]
                  rfl
                refine pure_ (i := 2) (N := some 26) (v := ?_) (a' := ?_) #[true, false, true, false, false, false, false, false, false, false, false, false, false, false, false, false, false, false, false, false, false, false, false, false, false, false, false, false, false, false, false, false] rfl rfl (any_of HT_.out (by kernel_rfl)) (fun _ _ _ h => h) (Or.inl ⟨by rfl, ?_⟩) ?_ ?_
                rotate_left
                · intro w'
                  go_simp
                  with_reducible rfl
                rotate_left
                · simp only [Act.put, List.setIfInBounds_toArray, List.set_cons_zero, List.set_cons_succ, i64_w, i32_w]
                  rfl
                refine pure_ (i := 5) (N := some 29) (v := ?_) (a' := ?_) #[true, false, true, false, false, true, false, false, false, false, false, false, false, false, false, false, false, false, false, false, false, false, false, false, false, false, false, false, false, false, false, false] rfl rfl (any_of HT_.out (by kernel_rfl)) (fun _ _ _ h => h) (Or.inl ⟨by rfl, ?_⟩) ?_ ?_
                rotate_left
                · intro w'
                  go_simp
                  with_reducible rfl
                rotate_left
                · simp only [Act.put, List.setIfInBounds_toArray, List.set_cons_zero, List.set_cons_succ, i64_w, i32_w]
                  rfl
                refine pure_ (i := 8) (N := some 32) (v := ?_) (a' := ?_) #[true, false, true, false, false, true, false, false, true, false, false, false, false, false, false, false, false, false, false, false, false, false, false, false, false, false, false, false, false, false, false, false] rfl rfl (any_of HT_.out (by kernel_rfl)) (fun _ _ _ h => h) (Or.inl ⟨by rfl, ?_⟩) ?_ ?_
                rotate_left
                · intro w'
                  go_simp
                  with_reducible rfl
                rotate_left
                · simp only [Act.put, List.setIfInBounds_toArray, List.set_cons_zero, List.set_cons_succ, i64_w, i32_w]
                  rfl
                refine pure_ (i := 11) (N := some 35) (v := ?_) (a' := ?_) #[true, false, true, false, false, true, false, false, true, false, false, true, false, false, false, false, false, false, false, false, false, false, false, false, false, false, false, false, false, false, false, false] rfl rfl (any_of HT_.out (by kernel_rfl)) (fun _ _ _ h => h) (Or.inl ⟨by rfl, ?_⟩) ?_ ?_
                rotate_left
                · intro w'
                  go_simp
                  with_reducible rfl
                rotate_left
                · simp only [Act.put, List.setIfInBounds_toArray, List.set_cons_zero, List.set_cons_succ, i64_w, i32_w]
                  rfl
                refine pure_ (i := 16) (N := some 40) (v := ?_) (a' := ?_) #[true, false, true, false, false, true, false, false, true, false, false, true, false, false, false, false, true, false, false, false, false, false, false, false, false, false, false, false, false, false, false, false] rfl rfl (any_of HT_.out (by kernel_rfl)) (fun _ _ _ h => h) (Or.inl ⟨by rfl, ?_⟩) ?_ ?_
                rotate_left
                · intro w'
                  go_simp
                  with_reducible rfl
                rotate_left
                · simp only [Act.put, List.setIfInBounds_toArray, List.set_cons_zero, List.set_cons_succ, i64_w, i32_w]
                  rfl
                refine pure_ (i := 19) (N := some 43) (v := ?_) (a' := ?_) #[true, false, true, false, false, true, false, false, true, false, false, true, false, false, false, false, true, false, false, true, false, false, false, false, false, false, false, false, false, false, false, false] rfl rfl (any_of HT_.out (by kernel_rfl)) (fun _ _ _ h => h) (Or.inl ⟨by rfl, ?_⟩) ?_ ?_
                rotate_left
                · intro w'
                  go_simp
                  with_reducible rfl
                rotate_left
                · simp only [Act.put, List.setIfInBounds_toArray, List.set_cons_zero, List.set_cons_succ, i64_w, i32_w]
                  rfl
                refine pure_ (i := 22) (N := some 46) (v := ?_) (a' := ?_) #[true, false, true, false, false, true, false, false, true, false, false, true, false, false, false, false, true, false, false, true, false, false, true, false, false, false, false, false, false, false, false, false] rfl rfl (any_of HT_.out (by kernel_rfl)) (fun _ _ _ h => h) (Or.inl ⟨by rfl, ?_⟩) ?_ ?_
                rotate_left
                · intro w'
                  go_simp
                  with_reducible rfl
                rotate_left
                · simp only [Act.put, List.setIfInBounds_toArray, List.set_cons_zero, List.set_cons_succ, i64_w, i32_w]
                  rfl
                refine pure_ (i := 25) (N := some 49) (v := ?_) (a' := ?_) #[true, false, true, false, false, true, false, false, true, false, false, true, false, false, false, false, true, false, false, true, false, false, true, false, false, true, false, false, false, false, false, false] rfl rfl (any_of HT_.out (by kernel_rfl)) (fun _ _ _ h => h) (Or.inl ⟨by rfl, ?_⟩) ?_ ?_
                rotate_left
                · intro w'
                  go_simp
                  with_reducible rfl
                rotate_left
                · simp only [Act.put, List.setIfInBounds_toArray, List.set_cons_zero, List.set_cons_succ, i64_w, i32_w]
                  rfl
                refine take_ (i := 1) (N := some 25) (v := ?_) (a' := ?_) #[true, true, true, false, false, true, false, false, true, false, false, true, false, false, false, false, true, false, false, true, false, false, true, false, false, true, false, false, false, false, false, false] rfl rfl (take_ofW HT_.out HW_.out (by kernel_rfl)) (fun _ _ _ h => h) (Or.inl ⟨by rfl, ?_⟩) hHeld ?_ ?_
                rotate_left
                · rintro w' ⟨s0, s1, s2, s3, s4⟩
                  go_simp
                  with_reducible rfl
                rotate_left
                · simp only [Act.put, List.setIfInBounds_toArray, List.set_cons_zero, List.set_cons_succ, i64_w, i32_w]
                  rfl
                refine take_ (i := 3) (N := some 27) (v := ?_) (a' := ?_) #[true, true, true, true, false, true, false, false, true, false, false, true, false, false, false, false, true, false, false, true, false, false, true, false, false, true, false, false, false, false, false, false] rfl rfl (take_ofW HT_.out HW_.out (by kernel_rfl)) (fun _ _ _ h => h) (Or.inl ⟨by rfl, ?_⟩) hHeld ?_ ?_
                rotate_left
                · rintro w' ⟨s0, s1, s2, s3, s4⟩
                  go_simp
                  with_reducible rfl
                rotate_left
                · simp only [Act.put, List.setIfInBounds_toArray, List.set_cons_zero, List.set_cons_succ, i64_w, i32_w]
                  rfl
                refine pure_ (i := 4) (N := some 28) (v := ?_) (a' := ?_) #[true, true, true, true, true, true, false, false, true, false, false, true, false, false, false, false, true, false, false, true, false, false, true, false, false, true, false, false, false, false, false, false] rfl rfl (any_of HT_.out (by kernel_rfl)) (fun _ _ _ h => h) (Or.inl ⟨by rfl, ?_⟩) ?_ ?_
                rotate_left
                · intro w'
                  go_simp
                  with_reducible rfl
                rotate_left
                · simp only [Act.put, List.setIfInBounds_toArray, List.set_cons_zero, List.set_cons_succ, i64_w, i32_w]
                  rfl
                refine take_ (i := 6) (N := some 30) (v := ?_) (a' := ?_) #[true, true, true, true, true, true, true, false, true, false, false, true, false, false, false, false, true, false, false, true, false, false, true, false, false, true, false, false, false, false, false, false] rfl rfl (take_ofW HT_.out HW_.out (by kernel_rfl)) (fun _ _ _ h => h) (Or.inl ⟨by rfl, ?_⟩) hHeld ?_ ?_
                rotate_left
                · rintro w' ⟨s0, s1, s2, s3, s4⟩
                  go_simp
                  with_reducible rfl
                rotate_left
                · simp only [Act.put, List.setIfInBounds_toArray, List.set_cons_zero, List.set_cons_succ, i64_w, i32_w]
                  rfl
                refine pure_ (i := 7) (N := some 31) (v := ?_) (a' := ?_) #[true, true, true, true, true, true, true, true, true, false, false, true, false, false, false, false, true, false, false, true, false, false, true, false, false, true, false, false, false, false, false, false] rfl rfl (any_of HT_.out (by kernel_rfl)) (fun _ _ _ h => h) (Or.inl ⟨by rfl, ?_⟩) ?_ ?_
                rotate_left
                · intro w'
                  go_simp
                  with_reducible rfl
                rotate_left
                · simp only [Act.put, List.setIfInBounds_toArray, List.set_cons_zero, List.set_cons_succ, i64_w, i32_w]
                  rfl
                refine take_ (i := 9) (N := some 33) (v := ?_) (a' := ?_) #[true, true, true, true, true, true, true, true, true, true, false, true, false, false, false, false, true, false, false, true, false, false, true, false, false, true, false, false, false, false, false, false] rfl rfl (take_ofW HT_.out HW_.out (by kernel_rfl)) (fun _ _ _ h => h) (Or.inl ⟨by rfl, ?_⟩) hHeld ?_ ?_
                rotate_left
                · rintro w' ⟨s0, s1, s2, s3, s4⟩
                  go_simp
                  with_reducible rfl
                rotate_left
                · simp only [Act.put, List.setIfInBounds_toArray, List.set_cons_zero, List.set_cons_succ, i64_w, i32_w]
                  rfl
                refine pure_ (i := 10) (N := some 34) (v := ?_) (a' := ?_) #[true, true, true, true, true, true, true, true, true, true, true, true, false, false, false, false, true, false, false, true, false, false, true, false, false, true, false, false, false, false, false, false] rfl rfl (any_of HT_.out (by kernel_rfl)) (fun _ _ _ h => h) (Or.inl ⟨by rfl, ?_⟩) ?_ ?_
                rotate_left
                · intro w'
                  go_simp
                  with_reducible rfl
                rotate_left
                · simp only [Act.put, List.setIfInBounds_toArray, List.set_cons_zero, List.set_cons_succ, i64_w, i32_w]
                  rfl
                refine take_ (i := 12) (N := some 36) (v := ?_) (a' := ?_) #[true, true, true, true, true, true, true, true, true, true, true, true, true, false, false, false, true, false, false, true, false, false, true, false, false, true, false, false, false, false, false, false] rfl rfl (take_ofW HT_.out HW_.out (by kernel_rfl)) (fun _ _ _ h => h) (Or.inl ⟨by rfl, ?_⟩) hHeld ?_ ?_
                rotate_left
                · rintro w' ⟨s0, s1, s2, s3, s4⟩
                  go_simp
                  with_reducible rfl
                rotate_left
                · simp only [Act.put, List.setIfInBounds_toArray, List.set_cons_zero, List.set_cons_succ, i64_w, i32_w]
                  rfl
                refine pure_ (i := 13) (N := some 37) (v := ?_) (a' := ?_) #[true, true, true, true, true, true, true, true, true, true, true, true, true, true, false, false, true, false, false, true, false, false, true, false, false, true, false, false, false, false, false, false] rfl rfl (any_of HT_.out (by kernel_rfl)) (fun _ _ _ h => h) (Or.inl ⟨by rfl, ?_⟩) ?_ ?_
                rotate_left
                · intro w'
                  go_simp
                  with_reducible rfl
                rotate_left
                · simp only [Act.put, List.setIfInBounds_toArray, List.set_cons_zero, List.set_cons_succ, i64_w, i32_w]
                  rfl
                refine take_ (i := 15) (N := some 39) (v := ?_) (a' := ?_) #[true, true, true, true, true, true, true, true, true, true, true, true, true, true, false, true, true, false, false, true, false, false, true, false, false, true, false, false, false, false, false, false] rfl rfl (take_ofW HT_.out HW_.out (by kernel_rfl)) (fun _ _ _ h => h) (Or.inl ⟨by rfl, ?_⟩) hHeld ?_ ?_
                rotate_left
                · rintro w' ⟨s0, s1, s2, s3, s4⟩
                  go_simp
                  with_reducible rfl
                rotate_left
                · simp only [Act.put, List.setIfInBounds_toArray, List.set_cons_zero, List.set_cons_succ, i64_w, i32_w]
                  rfl
                refine take_ (i := 17) (N := some 41) (v := ?_) (a' := ?_) #[true, true, true, true, true, true, true, true, true, true, true, true, true, true, false, true, true, true, false, true, false, false, true, false, false, true, false, false, false, false, false, false] rfl rfl (take_ofW HT_.out HW_.out (by kernel_rfl)) (fun _ _ _ h => h) (Or.inl ⟨by rfl, ?_⟩) hHeld ?_ ?_
                rotate_left
                · rintro w' ⟨s0, s1, s2, s3, s4⟩
                  go_simp
                  with_reducible rfl
                rotate_left
                · simp only [Act.put, List.setIfInBounds_toArray, List.set_cons_zero, List.set_cons_succ, i64_w, i32_w]
                  rfl
                refine pure_ (i := 18) (N := some 42) (v := ?_) (a' := ?_) #[true, true, true, true, true, true, true, true, true, true, true, true, true, true, false, true, true, true, true, true, false, false, true, false, false, true, false, false, false, false, false, false] rfl rfl (any_of HT_.out (by kernel_rfl)) (fun _ _ _ h => h) (Or.inl ⟨by rfl, ?_⟩) ?_ ?_
                rotate_left
                · intro w'
                  go_simp
                  with_reducible rfl
                rotate_left
                · simp only [Act.put, List.setIfInBounds_toArray, List.set_cons_zero, List.set_cons_succ, i64_w, i32_w]
                  rfl
                refine take_ (i := 20) (N := some 44) (v := ?_) (a' := ?_) #[true, true, true, true, true, true, true, true, true, true, true, true, true, true, false, true, true, true, true, true, true, false, true, false, false, true, false, false, false, false, false, false] rfl rfl (take_ofW HT_.out HW_.out (by kernel_rfl)) (fun _ _ _ h => h) (Or.inl ⟨by rfl, ?_⟩) hHeld ?_ ?_
                rotate_left
                · rintro w' ⟨s0, s1, s2, s3, s4⟩
                  go_simp
                  with_reducible rfl
                rotate_left
                · simp only [Act.put, List.setIfInBounds_toArray, List.set_cons_zero, List.set_cons_succ, i64_w, i32_w]
                  rfl
                refine pure_ (i := 21) (N := some 45) (v := ?_) (a' := ?_) #[true, true, true, true, true, true, true, true, true, true, true, true, true, true, false, true, true, true, true, true, true, true, true, false, false, true, false, false, false, false, false, false] rfl rfl (any_of HT_.out (by kernel_rfl)) (fun _ _ _ h => h) (Or.inl ⟨by rfl, ?_⟩) ?_ ?_
                rotate_left
                · intro w'
                  go_simp
                  with_reducible rfl
                rotate_left
                · simp only [Act.put, List.setIfInBounds_toArray, List.set_cons_zero, List.set_cons_succ, i64_w, i32_w]
                  rfl
                refine take_ (i := 23) (N := some 47) (v := ?_) (a' := ?_) #[true, true, true, true, true, true, true, true, true, true, true, true, true, true, false, true, true, true, true, true, true, true, true, true, false, true, false, false, false, false, false, false] rfl rfl (take_ofW HT_.out HW_.out (by kernel_rfl)) (fun _ _ _ h => h) (Or.inl ⟨by rfl, ?_⟩) hHeld ?_ ?_
                rotate_left
                · rintro w' ⟨s0, s1, s2, s3, s4⟩
                  go_simp
                  with_reducible rfl
                rotate_left
                · simp only [Act.put, List.setIfInBounds_toArray, List.set_cons_zero, List.set_cons_succ, i64_w, i32_w]
                  rfl
                refine pure_ (i := 24) (N := some 48) (v := ?_) (a' := ?_) #[true, true, true, true, true, true, true, true, true, true, true, true, true, true, false, true, true, true, true, true, true, true, true, true, true, true, false, false, false, false, false, false] rfl rfl (any_of HT_.out (by kernel_rfl)) (fun _ _ _ h => h) (Or.inl ⟨by rfl, ?_⟩) ?_ ?_
                rotate_left
                · intro w'
                  go_simp
                  with_reducible rfl
                rotate_left
                · simp only [Act.put, List.setIfInBounds_toArray, List.set_cons_zero, List.set_cons_succ, i64_w, i32_w]
                  rfl
                refine take_ (i := 26) (N := some 50) (v := ?_) (a' := ?_) #[true, true, true, true, true, true, true, true, true, true, true, true, true, true, false, true, true, true, true, true, true, true, true, true, true, true, true, false, false, false, false, false] rfl rfl (take_ofW HT_.out HW_.out (by kernel_rfl)) (fun _ _ _ h => h) (Or.inl ⟨by rfl, ?_⟩) hHeld ?_ ?_
                rotate_left
                · rintro w' ⟨s0, s1, s2, s3, s4⟩
                  go_simp
                  with_reducible rfl
                rotate_left
                · simp only [Act.put, List.setIfInBounds_toArray, List.set_cons_zero, List.set_cons_succ, i64_w, i32_w]
                  rfl
                refine pure_ (i := 27) (N := some 51) (v := ?_) (a' := ?_) #[true, true, true, true, true, true, true, true, true, true, true, true, true, true, false, true, true, true, true, true, true, true, true, true, true, true, true, true, false, false, false, false] rfl rfl (any_of HT_.out (by kernel_rfl)) (fun _ _ _ h => h) (Or.inl ⟨by rfl, ?_⟩) ?_ ?_
                rotate_left
                · intro w'
                  go_simp
                  with_reducible rfl
                rotate_left
                · simp only [Act.put, List.setIfInBounds_toArray, List.set_cons_zero, List.set_cons_succ, i64_w, i32_w]
                  rfl
                refine one_ (i := 14) (N := some 38) #[true, true, true, true, true, true, true, true, true, true, true, true, true, true, true, true, true, true, true, true, true, true, true, true, true, true, true, true, false, false, false, false] rfl rfl (one_of HT_.out (by kernel_rfl)) (by decide) (fun K hK => ?_)
                refine goes_ Try.func94 (by kernel_rfl) rfl #[.agg #[.string a0_0, .int .i64 a0_1, .int .u8 a0_2], .int .i64 (wrap64 ((wrap64 (2 * ((rd_T81 y154 x12_1).f0))) + ((rd_T81 y154 x12_1).f1))), .int .i64 (wrap64 ((wrap64 (2 * ((rd_T81 y154 x12_1).f1))) + ((rd_T81 y154 x12_1).f0)))] (by rfl) rfl rfl (by (try simp only [List.map_toArray, List.map_cons, List.map_nil]); first | done | rfl | (simp only [List.length_drop, List.length_take]; rfl)) ?_
                with_reducible refine (reach_view_step.calls a0_0 a0_1 a0_2 (wrap64 ((wrap64 (2 * ((rd_T81 y154 x12_1).f0))) + ((rd_T81 y154 x12_1).f1))) (wrap64 ((wrap64 (2 * ((rd_T81 y154 x12_1).f1))) + ((rd_T81 y154 x12_1).f0))) t161 _ A12.out).mono ?_
                rintro e w23 ⟨rfl, hb⟩
                refine ⟨_, rfl, ?_⟩
                have n0_ := Aside0.mk (Kd.R_below (by (with_reducible repeat (first | apply Kd.R_alloc | apply Kd.R_drewN | apply Kd.R_drew)); exact HO_3.out) hb)
                have n1_ := Aside0.mk (Kd.R_below (by (with_reducible repeat (first | apply Kd.R_alloc | apply Kd.R_drewN | apply Kd.R_drew)); exact HO_10.out) hb)
                have n2_ := Aside0.mk (blk_below (g := gb153) (o := .cells #[.string a0_0, .int .i64 a0_1, .int .u8 a0_2] 53 (0, 0)) (by (with_reducible repeat (first | refine blk_drewN ?_ _ | refine blk_drew ?_ | refine blk_alloc ?_ _)); exact BK153.out) hb)
                have n3_ := Aside0.mk (blk_below (g := gb158) (o := .cells #[.int .i64 ((rd_T81 y154 x12_1).f0), .int .i64 ((rd_T81 y154 x12_1).f1)] 81 (0, 0)) (by (with_reducible repeat (first | refine blk_drewN ?_ _ | refine blk_drew ?_ | refine blk_alloc ?_ _)); exact BK158.out) hb)
                have n4_ := Aside0.mk (below_step (by repeat (first | (with_reducible first | exact HB.out | apply below_alloc | apply pw_below_drewN | apply below_drew1 | refine below_set ?_ GE153.out | refine below_set ?_ GE158.out) | exact HB.out)) hb)
                clear HO_3
                clear HO_10
                clear BK153
                clear BK158
                clear HB
                have HO_3 := n0_
                have HO_10 := n1_
                have BK153 := n2_
                have BK158 := n3_
                have HB := n4_
                clear n0_ n1_ n2_ n3_ n4_
                (try clear hb)
                (try clear hb2)
                (try clear hk)
                (try clear hi)
                refine hK.out _ _ ⟨(blk_cell BK153.out 0).trans rfl, (blk_cell BK153.out 1).trans rfl, (blk_cell BK153.out 2).trans rfl, (blk_cell BK158.out 0).trans rfl, (blk_cell BK158.out 1).trans rfl⟩ (fun hHeld => ?_)
                clear hK K
                refine norm_ (a' := ?_) ?_ ?_
                rotate_left
                · show Act.put _ (some 38) _ = _
                  simp only [Act.put, List.setIfInBounds_toArray, List.set_cons_zero, List.set_cons_succ, i64_w, i32_w]
                  rfl
                refine one_ (i := 28) (N := some 52) #[true, true, true, true, true, true, true, true, true, true, true, true, true, true, true, true, true, true, true, true, true, true, true, true, true, true, true, true, true, false, false, false] rfl rfl (one_of HT_.out (by kernel_rfl)) (by decide) (fun K hK => ?_)
                refine goes_ Try.func94 (by kernel_rfl) rfl #[.agg #[.string a0_0, .int .i64 a0_1, .int .u8 a0_2], .int .i64 (wrap64 ((wrap64 (2 * ((rd_T81 y154 x12_1).f0))) - ((rd_T81 y154 x12_1).f1))), .int .i64 (wrap64 ((wrap64 (2 * ((rd_T81 y154 x12_1).f1))) - ((rd_T81 y154 x12_1).f0)))] (by rfl) rfl rfl (by (try simp only [List.map_toArray, List.map_cons, List.map_nil]); first | done | rfl | (simp only [List.length_drop, List.length_take]; rfl)) ?_
                with_reducible refine (reach_view_step.calls a0_0 a0_1 a0_2 (wrap64 ((wrap64 (2 * ((rd_T81 y154 x12_1).f0))) - ((rd_T81 y154 x12_1).f1))) (wrap64 ((wrap64 (2 * ((rd_T81 y154 x12_1).f1))) - ((rd_T81 y154 x12_1).f0))) t162 _ A13.out).mono ?_
                rintro e w24 ⟨rfl, hb⟩
                refine ⟨_, rfl, ?_⟩
                have n0_ := Aside0.mk (Kd.R_below (by (with_reducible repeat (first | apply Kd.R_alloc | apply Kd.R_drewN | apply Kd.R_drew)); exact HO_3.out) hb)
                have n1_ := Aside0.mk (Kd.R_below (by (with_reducible repeat (first | apply Kd.R_alloc | apply Kd.R_drewN | apply Kd.R_drew)); exact HO_10.out) hb)
                have n2_ := Aside0.mk (blk_below (g := gb153) (o := .cells #[.string a0_0, .int .i64 a0_1, .int .u8 a0_2] 53 (0, 0)) (by (with_reducible repeat (first | refine blk_drewN ?_ _ | refine blk_drew ?_ | refine blk_alloc ?_ _)); exact BK153.out) hb)
                have n3_ := Aside0.mk (blk_below (g := gb158) (o := .cells #[.int .i64 ((rd_T81 y154 x12_1).f0), .int .i64 ((rd_T81 y154 x12_1).f1)] 81 (0, 0)) (by (with_reducible repeat (first | refine blk_drewN ?_ _ | refine blk_drew ?_ | refine blk_alloc ?_ _)); exact BK158.out) hb)
                have n4_ := Aside0.mk (below_step (by repeat (first | (with_reducible first | exact HB.out | apply below_alloc | apply pw_below_drewN | apply below_drew1 | refine below_set ?_ GE153.out | refine below_set ?_ GE158.out) | exact HB.out)) hb)
                clear HO_3
                clear HO_10
                clear BK153
                clear BK158
                clear HB
                have HO_3 := n0_
                have HO_10 := n1_
                have BK153 := n2_
                have BK158 := n3_
                have HB := n4_
                clear n0_ n1_ n2_ n3_ n4_
                (try clear hb)
                (try clear hb2)
                (try clear hk)
                (try clear hi)
                refine hK.out _ _ ⟨(blk_cell BK153.out 0).trans rfl, (blk_cell BK153.out 1).trans rfl, (blk_cell BK153.out 2).trans rfl, (blk_cell BK158.out 0).trans rfl, (blk_cell BK158.out 1).trans rfl⟩ (fun hHeld => ?_)
                clear hK K
                refine norm_ (a' := ?_) ?_ ?_
                rotate_left
                · show Act.put _ (some 52) _ = _
                  simp only [Act.put, List.setIfInBounds_toArray, List.set_cons_zero, List.set_cons_succ, i64_w, i32_w]
                  rfl
                refine one_ (i := 29) (N := some 53) #[true, true, true, true, true, true, true, true, true, true, true, true, true, true, true, true, true, true, true, true, true, true, true, true, true, true, true, true, true, true, false, false] rfl rfl (one_of HT_.out (by kernel_rfl)) (by decide) (fun K hK => ?_)
                refine Kd.R_lit_step (Kd.int .i64) _ 3 ?hg (N := 53) ?hd (xs := ([t161, t162] : List Int)) (inner := [.int .i64 t161, .int .i64 t162]) (ok := fun _ => True) (okp := fun _ => True) ?hr ?hp (fun _ hk => hk) trivial (Below.refl _ _) (Nat.le_refl _) (by simp) ?_; (case hd => rfl); (case hg => rfl); (case hr => first | (go_simp; done) | (go_simp; rfl)); (case hp => exact (Reps.one (show Kd.M (Kd.int .i64) _ _ _ t161 [.int .i64 t161] from rfl) (Reps.one (show Kd.M (Kd.int .i64) _ _ _ t162 [.int .i64 t162] from rfl) (Reps.none _ _))))
                intro v164 w25 ho26 hb hg_ hnew_
                clear hg_ hnew_
                (first | rw [← Ny163.out] at ho26 | (simp only [Int.reduceToNat] at ho26; rw [← Ny163.out] at ho26))
                have n0_ := Aside0.mk (Kd.R_elder' (by (with_reducible repeat (first | apply Kd.R_alloc | apply Kd.R_drewN | apply Kd.R_drew)); exact HO_3.out) (Kd.R_base ho26) hb)
                have n1_ := Aside0.mk (Kd.R_below (by (with_reducible repeat (first | apply Kd.R_alloc | apply Kd.R_drewN | apply Kd.R_drew)); exact HO_10.out) hb)
                have n2_ := Aside0.mk (Kd.R_lower (Kd.R_new' ho26 (Kd.R_lt (by (with_reducible repeat (first | apply Kd.R_alloc | apply Kd.R_drewN | apply Kd.R_drew)); exact HO_3.out))) (below_size (by repeat (first | (with_reducible first | exact HB.out | apply below_alloc | apply pw_below_drewN | apply below_drew1 | refine below_set ?_ GE153.out | refine below_set ?_ GE158.out) | exact HB.out))))
                have n3_ := Aside0.mk (blk_below (g := gb153) (o := .cells #[.string a0_0, .int .i64 a0_1, .int .u8 a0_2] 53 (0, 0)) (by (with_reducible repeat (first | refine blk_drewN ?_ _ | refine blk_drew ?_ | refine blk_alloc ?_ _)); exact BK153.out) hb)
                have n4_ := Aside0.mk (blk_below (g := gb158) (o := .cells #[.int .i64 ((rd_T81 y154 x12_1).f0), .int .i64 ((rd_T81 y154 x12_1).f1)] 81 (0, 0)) (by (with_reducible repeat (first | refine blk_drewN ?_ _ | refine blk_drew ?_ | refine blk_alloc ?_ _)); exact BK158.out) hb)
                have n5_ := Aside0.mk (below_step (by repeat (first | (with_reducible first | exact HB.out | apply below_alloc | apply pw_below_drewN | apply below_drew1 | refine below_set ?_ GE153.out | refine below_set ?_ GE158.out) | exact HB.out)) hb)
                clear HO_3
                clear HO_10
                clear BK153
                clear BK158
                clear HB
                have HO_3 := n0_
                have HO_10 := n1_
                have HO165 := n2_
                have BK153 := n3_
                have BK158 := n4_
                have HB := n5_
                clear n0_ n1_ n2_ n3_ n4_ n5_
                clear hb ho26
                obtain ⟨Ao28, co28, eo28⟩ := Kd.R_slice HO165.out
                (first | subst eo28 | (injection eo28 with f1_ f2_ f3_; have f4_ := f1_.symm; have f5_ := f3_.symm; clear f1_ f2_ f3_; subst f4_; subst f5_))
                refine hK.out _ _ ⟨(blk_cell BK153.out 0).trans rfl, (blk_cell BK153.out 1).trans rfl, (blk_cell BK153.out 2).trans rfl, (blk_cell BK158.out 0).trans rfl, (blk_cell BK158.out 1).trans rfl⟩ (fun hHeld => ?_)
                clear hK K
                refine norm_ (a' := ?_) ?_ ?_
                rotate_left
                · show Act.put _ (some 53) _ = _
                  simp only [Act.put, List.setIfInBounds_toArray, List.set_cons_zero, List.set_cons_succ, i64_w, i32_w]
                  rfl
                refine one_ (i := 30) (N := some 54) #[true, true, true, true, true, true, true, true, true, true, true, true, true, true, true, true, true, true, true, true, true, true, true, true, true, true, true, true, true, true, true, false] rfl rfl (one_of HT_.out (by kernel_rfl)) (by decide) (fun K hK => ?_)
                refine Kd.R_append_rows_step (Kd.int .i64) (w0 := w) w.heap.size (by rfl) (.tmp 24) (.tmp 53) 24 3 (.int .i64 0) 8 rfl Try.underlying24 info3 rfl (by decide) (by omega) u3 x3_1 y163 _ _ _ (fun k_ => some k_ ≠ (.slice Ao28 y163.length co28 : Value).ownBlock) (fun _ => False) rfl rfl ?aO ?aR (fun _ _ h => h) (fun _ h => h.elim) ?aF ?aB ?aS ?aL ?_
                (case aR => repeat (first | exact (Kd.R_reads' HO165.out).2.2 | (with_reducible refine Kd.C_alloc ?_ _) | (with_reducible refine Kd.C_drewN ?_ _) | (with_reducible refine Kd.C_drew ?_)))
                (case aB => exact (by repeat (first | (with_reducible first | exact HB.out | apply below_alloc | apply pw_below_drewN | apply below_drew1 | refine below_set ?_ GE153.out | refine below_set ?_ GE158.out) | exact HB.out)))
                (case aF => exact (fun k_ hk => Kd.fresh' (Kd.R_lt (by (with_reducible repeat (first | apply Kd.R_alloc | apply Kd.R_drewN | apply Kd.R_drew)); exact HO165.out)) k_ hk))
                (case aO => exact (by (with_reducible repeat (first | apply Kd.R_alloc | apply Kd.R_drewN | apply Kd.R_drew)); exact Kd.R_mono HO_3.out (fun _ hk => hk.2)))
                (case aS => exact (below_size (by repeat (first | (with_reducible first | exact HB.out | apply below_alloc | apply pw_below_drewN | apply below_drew1 | refine below_set ?_ GE153.out | refine below_set ?_ GE158.out) | exact HB.out))))
                (case aL => have := LMc14.out; omega)
                intro v167 w27 ho hb hg hat
                rw [← Ny166.out] at ho
                have n0_ := Aside0.mk (Kd.R_over' (by (with_reducible repeat (first | apply Kd.R_alloc | apply Kd.R_drewN | apply Kd.R_drew)); exact HO_10.out) (Kd.R_typed (by (with_reducible repeat (first | apply Kd.R_alloc | apply Kd.R_drewN | apply Kd.R_drew)); exact HO_3.out)) (by decide) hg)
                have n1_ := Aside0.mk (blk_grown (g := gb153) (o := .cells #[.string a0_0, .int .i64 a0_1, .int .u8 a0_2] 53 (0, 0)) (by (with_reducible repeat (first | refine blk_drewN ?_ _ | refine blk_drew ?_ | refine blk_alloc ?_ _)); exact BK153.out) hg (Kd.R_ne HO_3.out BK153.out (by decide)))
                have n2_ := Aside0.mk (blk_grown (g := gb158) (o := .cells #[.int .i64 ((rd_T81 y154 x12_1).f0), .int .i64 ((rd_T81 y154 x12_1).f1)] 81 (0, 0)) (by (with_reducible repeat (first | refine blk_drewN ?_ _ | refine blk_drew ?_ | refine blk_alloc ?_ _)); exact BK158.out) hg (Kd.R_ne HO_3.out BK158.out (by decide)))
                have n3_ := Aside0.mk (Kd.R_after (ok := (fun _ => True)) (by (with_reducible repeat (first | apply Kd.R_alloc | apply Kd.R_drewN | apply Kd.R_drew)); exact HO165.out) hg hat)
                have n4_ := Aside0.mk (hb)
                have n5_ := Aside0.mk (ho)
                clear HO_10
                clear BK153
                clear BK158
                clear HO165
                clear HB
                clear HO_3
                have HO_10 := n0_
                have BK153 := n1_
                have BK158 := n2_
                have HO165 := n3_
                have HB := n4_
                have HO168 := n5_
                clear n0_ n1_ n2_ n3_ n4_ n5_
                clear ho hb hg hat
                refine hK.out _ _ ⟨(blk_cell BK153.out 0).trans rfl, (blk_cell BK153.out 1).trans rfl, (blk_cell BK153.out 2).trans rfl, (blk_cell BK158.out 0).trans rfl, (blk_cell BK158.out 1).trans rfl⟩ (fun hHeld => ?_)
                clear hK K
                refine norm_ (a' := ?_) ?_ ?_
                rotate_left
                · show Act.put _ (some 54) _ = _
                  simp only [Act.put, List.setIfInBounds_toArray, List.set_cons_zero, List.set_cons_succ, i64_w, i32_w]
                  rfl
                refine pure_ (i := 31) (N := some 3) (v := ?_) (a' := ?_) #[true, true, true, true, true, true, true, true, true, true, true, true, true, true, true, true, true, true, true, true, true, true, true, true, true, true, true, true, true, true, true, true] rfl rfl (any_of HT_.out (by kernel_rfl)) (fun _ _ _ h => h) (Or.inl ⟨by rfl, ?_⟩) ?_ ?_
                rotate_left
                · intro w'
                  go_simp
                  with_reducible rfl
                rotate_left
                · simp only [Act.put, List.setIfInBounds_toArray, List.set_cons_zero, List.set_cons_succ, i64_w, i32_w]
                  rfl
                refine done_ (done_of HT_.out (by kernel_rfl)) ?_
                try go_wp2
                go_roundg k1
                case measure => have := HK1.out; omega
                case rel => exact ⟨(y166), (wrap64 (x12_1 + 1)), (by first | rfl | (simp; done) | (simp [*]; done)), H', ⟨by have := HK1.out; omega⟩, ⟨by (with_reducible repeat (first | apply Kd.R_alloc | apply Kd.R_drewN | apply Kd.R_drew)); exact Kd.R_mono HO168.out (fun _ hk => trivial)⟩, ⟨by (with_reducible repeat (first | apply Kd.R_alloc | apply Kd.R_drewN | apply Kd.R_drew)); exact Kd.R_mono HO_10.out (fun _ hk => trivial)⟩, ⟨by (with_reducible repeat (first | refine blk_drewN ?_ _ | refine blk_drew ?_ | refine blk_alloc ?_ _)); exact BK153.out⟩, ⟨by repeat (first | (with_reducible first | exact HB.out | apply below_alloc | apply pw_below_drewN | apply below_drew1 | refine below_set ?_ GE153.out | refine below_set ?_ GE158.out) | exact HB.out)⟩⟩
              · rw [if_neg c14] at H
                exact absurd H (by simp)
            · replace c11 := Bool.eq_false_iff.mpr c11
              subst c11
              have H1 : (reach_view_horse.l0 k1 x3_1 y154 (y154.length : Int) (wrap64 (x12_1 + 1)) a0_0 a0_1 a0_2) = some r := by rw [if_neg (show ¬ (false = true) by decide)] at H; exact H
              clear H
              have H := H1
              clear H1
              have H' := Aside0.mk H
              clear H
              have p157 : 0 ≤ (x12_1 : Int) := of_decide_eq_true (by first | (with_reducible assumption) | assumption)
              have q157 : x12_1 < (y154.length : Int) := of_decide_eq_true (by first | (with_reducible assumption) | assumption)
              obtain ⟨ad157, e157, hx157_0, hx157_1⟩ := at_T81 (Kd.R_reads' HO_10.out).2.2 x12_1 p157 q157
              cases e157
              replace p157 := eq_true p157
              replace q157 := eq_true q157
              try go_wp2_with (first | ((with_reducible refine gate_dst (N := 5) rfl ?_); refine box_event ?hg (N := 5) ?hd (cs := #[.int .i64 0, .int .i64 0]) (t := 81) ?hr ?_; (case hd => rfl); (case hg => rfl); (case hr => first | (go_simp; done) | (go_simp; rfl)); intro gb158 hg w29 hbox hb; have n0_ := Aside0.mk (Kd.R_below (by (with_reducible repeat (first | apply Kd.R_alloc | apply Kd.R_drewN | apply Kd.R_drew)); exact HO_3.out) hb); have n1_ := Aside0.mk (Kd.R_below (Kd.R_elderB (by (with_reducible repeat (first | apply Kd.R_alloc | apply Kd.R_drewN | apply Kd.R_drew)); exact HO_10.out) gb158 (Nat.le_of_eq hg.symm)) hb); have n2_ := Aside0.mk (blk_below (g := gb153) (o := .cells #[.string a0_0, .int .i64 a0_1, .int .u8 a0_2] 53 (0, 0)) (by (with_reducible repeat (first | refine blk_drewN ?_ _ | refine blk_drew ?_ | refine blk_alloc ?_ _)); exact BK153.out) hb); have n3_ := Aside0.mk (below_step (by repeat (first | (with_reducible first | exact HB.out | apply below_alloc | apply pw_below_drewN | apply below_drew1 | refine below_set ?_ GE153.out) | exact HB.out)) hb); have n4_ := Aside0.mk (hbox); have n5_ := Aside0.mk ((by rw [hg]; exact (below_size (by repeat (first | (with_reducible first | exact HB.out | apply below_alloc | apply pw_below_drewN | apply below_drew1 | refine below_set ?_ GE153.out) | exact HB.out))) : w.heap.size ≤ gb158)); have n6_ := Aside0.mk ((by rw [hg]; exact (below_size (by repeat (first | (with_reducible first | exact HB.out | apply below_alloc | apply pw_below_drewN | apply below_drew1 | refine below_set ?_ GE153.out) | exact HB.out))) : w.heap.size ≤ gb158)); have n7_ := Aside0.mk ((by rw [hg]; exact Nat.ne_of_lt (blk_lt (g := gb153) (o := .cells #[.string a0_0, .int .i64 a0_1, .int .u8 a0_2] 53 (0, 0)) (by (with_reducible repeat (first | refine blk_drewN ?_ _ | refine blk_drew ?_ | refine blk_alloc ?_ _)); exact BK153.out)) : gb153 ≠ gb158)); have n8_ := Aside0.mk ((by rw [hg]; exact Nat.ne_of_gt (blk_lt (g := gb153) (o := .cells #[.string a0_0, .int .i64 a0_1, .int .u8 a0_2] 53 (0, 0)) (by (with_reducible repeat (first | refine blk_drewN ?_ _ | refine blk_drew ?_ | refine blk_alloc ?_ _)); exact BK153.out)) : gb158 ≠ gb153)); clear HO_3; clear HO_10; clear BK153; clear HB; have HO_3 := n0_; have HO_10 := n1_; have BK153 := n2_; have HB := n3_; have BK158 := n4_; have GW158 := n5_; have GE158 := n6_; have NB153_158 := n7_; have NB158_153 := n8_; clear n0_ n1_ n2_ n3_ n4_ n5_ n6_ n7_ n8_; clear hb hbox hg; have hnb30 := NB158_153.out; have hnc30 := NB153_158.out; have hcz31_0 : w29.cell? ⟨gb158, 0, none⟩ = some (.int .i64 0) := (blk_cell BK158.out 0).trans rfl; have hcz31_1 : w29.cell? ⟨gb158, 1, none⟩ = some (.int .i64 0) := (blk_cell BK158.out 1).trans rfl; have hfz31_0 := blk_frozen BK158.out 0; have hfz31_1 := blk_frozen BK158.out 1))
              have n0_ : Aside0 (Kd.R (Kd.int .i64) 3 ((w29.setCell ⟨gb158, 0, none⟩ (.int .i64 ((rd_T81 y154 x12_1).f0))).setCell ⟨gb158, 1, none⟩ (.int .i64 ((rd_T81 y154 x12_1).f1))) w.heap.size (fun _ => True) u3 x3_1) := ⟨by (with_reducible repeat (first | apply Kd.R_alloc | apply Kd.R_drewN | apply Kd.R_drew)); exact Kd.R_mono (Kd.R_far (p := ⟨gb158, 1, none⟩) (Kd.R_far (p := ⟨gb158, 0, none⟩) (Kd.R_types HO_3.out BK158.out (by decide)) (fun _ hk => hk.2) (.int .i64 ((rd_T81 y154 x12_1).f0))) (fun _ hk => hk.2) (.int .i64 ((rd_T81 y154 x12_1).f1))) (fun _ hk => trivial)⟩
              have n1_ : Aside0 (Kd.R k81 81 ((w29.setCell ⟨gb158, 0, none⟩ (.int .i64 ((rd_T81 y154 x12_1).f0))).setCell ⟨gb158, 1, none⟩ (.int .i64 ((rd_T81 y154 x12_1).f1))) w.heap.size (fun k_ => k_ ≠ gb158) (.slice (some ad157) y154.length co5) y154) := ⟨by (with_reducible repeat (first | apply Kd.R_alloc | apply Kd.R_drewN | apply Kd.R_drew)); exact Kd.R_mono (Kd.R_far (p := ⟨gb158, 1, none⟩) (Kd.R_far (p := ⟨gb158, 0, none⟩) (Kd.R_mono HO_10.out (fun k_ hk => (⟨hk, hk.2⟩ : _ ∧ k_ ≠ gb158))) (fun _ hk => hk.2) (.int .i64 ((rd_T81 y154 x12_1).f0))) (fun _ hk => hk.2) (.int .i64 ((rd_T81 y154 x12_1).f1))) (fun _ hk => hk.1.2)⟩
              have n2_ : Aside0 (((w29.setCell ⟨gb158, 0, none⟩ (.int .i64 ((rd_T81 y154 x12_1).f0))).setCell ⟨gb158, 1, none⟩ (.int .i64 ((rd_T81 y154 x12_1).f1))).heap[gb153]? = some (.cells #[.string a0_0, .int .i64 a0_1, .int .u8 a0_2] 53 (0, 0))) := ⟨by (with_reducible repeat (first | refine blk_drewN ?_ _ | refine blk_drew ?_ | refine blk_alloc ?_ _)); refine blk_far ?_ NB153_158.out _; (with_reducible repeat (first | refine blk_drewN ?_ _ | refine blk_drew ?_ | refine blk_alloc ?_ _)); refine blk_far ?_ NB153_158.out _; (with_reducible repeat (first | refine blk_drewN ?_ _ | refine blk_drew ?_ | refine blk_alloc ?_ _)); exact BK153.out⟩
              have n3_ : Aside0 (((w29.setCell ⟨gb158, 0, none⟩ (.int .i64 ((rd_T81 y154 x12_1).f0))).setCell ⟨gb158, 1, none⟩ (.int .i64 ((rd_T81 y154 x12_1).f1))).heap[gb158]? = some (.cells #[.int .i64 ((rd_T81 y154 x12_1).f0), .int .i64 ((rd_T81 y154 x12_1).f1)] 81 (0, 0))) := ⟨by (with_reducible repeat (first | refine blk_drewN ?_ _ | refine blk_drew ?_ | refine blk_alloc ?_ _)); refine blk_put (cs := #[.int .i64 ((rd_T81 y154 x12_1).f0), .int .i64 0]) ?_ 1 _ rfl; (with_reducible repeat (first | refine blk_drewN ?_ _ | refine blk_drew ?_ | refine blk_alloc ?_ _)); refine blk_put (cs := #[.int .i64 0, .int .i64 0]) ?_ 0 _ rfl; (with_reducible repeat (first | refine blk_drewN ?_ _ | refine blk_drew ?_ | refine blk_alloc ?_ _)); exact BK158.out⟩
              have n4_ : Aside0 (Below w.heap.size w ((w29.setCell ⟨gb158, 0, none⟩ (.int .i64 ((rd_T81 y154 x12_1).f0))).setCell ⟨gb158, 1, none⟩ (.int .i64 ((rd_T81 y154 x12_1).f1)))) := ⟨by repeat (first | (with_reducible first | exact HB.out | apply below_alloc | apply pw_below_drewN | apply below_drew1 | refine below_set ?_ GE153.out | refine below_set ?_ GE158.out) | exact HB.out)⟩
              (try clear HO_3)
              (try clear HO_10)
              (try clear BK153)
              (try clear BK158)
              (try clear HB)
              generalize ((w29.setCell ⟨gb158, 0, none⟩ (.int .i64 ((rd_T81 y154 x12_1).f0))).setCell ⟨gb158, 1, none⟩ (.int .i64 ((rd_T81 y154 x12_1).f1))) = w32 at n0_ n1_ n2_ n3_ n4_ ⊢
              have HO_3 := n0_
              have HO_10 := n1_
              have BK153 := n2_
              have BK158 := n3_
              have HB := n4_
              clear n0_ n1_ n2_ n3_ n4_
              have n0_ := Aside0.mk (Kd.R_drew HO_3.out)
              have n1_ := Aside0.mk (Kd.R_drew HO_10.out)
              have n2_ := Aside0.mk (blk_drew BK153.out)
              have n3_ := Aside0.mk (blk_drew BK158.out)
              have n4_ := Aside0.mk (below_drew1 HB.out)
              clear HO_3
              clear HO_10
              clear BK153
              clear BK158
              clear HB
              have HO_3 := n0_
              have HO_10 := n1_
              have BK153 := n2_
              have BK158 := n3_
              have HB := n4_
              clear n0_ n1_ n2_ n3_ n4_
              refine start_ (n := 8) (S := fun w' => w'.cell? ⟨gb153, 0, none⟩ = some (.string a0_0) ∧ w'.cell? ⟨gb153, 1, none⟩ = some (.int .i64 a0_1) ∧ w'.cell? ⟨gb153, 2, none⟩ = some (.int .u8 a0_2) ∧ w'.cell? ⟨gb158, 0, none⟩ = some (.int .i64 ((rd_T81 y154 x12_1).f0)) ∧ w'.cell? ⟨gb158, 1, none⟩ = some (.int .i64 ((rd_T81 y154 x12_1).f1))) (ds := []) #[false, false, false, false, false, false, false, false] (by kernel_rfl) rfl rfl ⟨(blk_cell BK153.out 0).trans rfl, (blk_cell BK153.out 1).trans rfl, (blk_cell BK153.out 2).trans rfl, (blk_cell BK158.out 0).trans rfl, (blk_cell BK158.out 1).trans rfl⟩ (fun hHeld => ?_); refine with_tabW reach_view_horse.tab5 reach_view_horse.bits5 (fun HT_ HW_ => ?_)
              generalize w32.drew = w33 at HO_3 HO_10 BK153 BK158 HB hHeld ⊢
              refine pure_ (i := 2) (N := some 18) (v := ?_) (a' := ?_) #[false, false, true, false, false, false, false, false] rfl rfl (any_of HT_.out (by kernel_rfl)) (fun _ _ _ h => h) (Or.inl ⟨by rfl, ?_⟩) ?_ ?_
              rotate_left
              · intro w'
                go_simp
                with_reducible rfl
              rotate_left
              · simp only [Act.put, List.setIfInBounds_toArray, List.set_cons_zero, List.set_cons_succ, i64_w, i32_w]
                rfl
              refine pure_ (i := 4) (N := some 20) (v := ?_) (a' := ?_) #[false, false, true, false, true, false, false, false] rfl rfl (any_of HT_.out (by kernel_rfl)) (fun _ _ _ h => h) (Or.inl ⟨by rfl, ?_⟩) ?_ ?_
              rotate_left
              · intro w'
                go_simp
                with_reducible rfl
              rotate_left
              · simp only [Act.put, List.setIfInBounds_toArray, List.set_cons_zero, List.set_cons_succ, i64_w, i32_w]
                rfl
              refine take_ (i := 0) (N := some 16) (v := ?_) (a' := ?_) #[true, false, true, false, true, false, false, false] rfl rfl (take_ofW HT_.out HW_.out (by kernel_rfl)) (fun _ _ _ h => h) (Or.inl ⟨by rfl, ?_⟩) hHeld ?_ ?_
              rotate_left
              · rintro w' ⟨s0, s1, s2, s3, s4⟩
                go_simp
                with_reducible rfl
              rotate_left
              · simp only [Act.put, List.setIfInBounds_toArray, List.set_cons_zero, List.set_cons_succ, i64_w, i32_w]
                rfl
              refine take_ (i := 1) (N := some 17) (v := ?_) (a' := ?_) #[true, true, true, false, true, false, false, false] rfl rfl (take_ofW HT_.out HW_.out (by kernel_rfl)) (fun _ _ _ h => h) (Or.inl ⟨by rfl, ?_⟩) hHeld ?_ ?_
              rotate_left
              · rintro w' ⟨s0, s1, s2, s3, s4⟩
                go_simp
                with_reducible rfl
              rotate_left
              · simp only [Act.put, List.setIfInBounds_toArray, List.set_cons_zero, List.set_cons_succ, i64_w, i32_w]
                rfl
              refine take_ (i := 3) (N := some 19) (v := ?_) (a' := ?_) #[true, true, true, true, true, false, false, false] rfl rfl (take_ofW HT_.out HW_.out (by kernel_rfl)) (fun _ _ _ h => h) (Or.inl ⟨by rfl, ?_⟩) hHeld ?_ ?_
              rotate_left
              · rintro w' ⟨s0, s1, s2, s3, s4⟩
                go_simp
                with_reducible rfl
              rotate_left
              · simp only [Act.put, List.setIfInBounds_toArray, List.set_cons_zero, List.set_cons_succ, i64_w, i32_w]
                rfl
              refine take_ (i := 5) (N := some 21) (v := ?_) (a' := ?_) #[true, true, true, true, true, true, false, false] rfl rfl (take_ofW HT_.out HW_.out (by kernel_rfl)) (fun _ _ _ h => h) (Or.inl ⟨by rfl, ?_⟩) hHeld ?_ ?_
              rotate_left
              · rintro w' ⟨s0, s1, s2, s3, s4⟩
                go_simp
                with_reducible rfl
              rotate_left
              · simp only [Act.put, List.setIfInBounds_toArray, List.set_cons_zero, List.set_cons_succ, i64_w, i32_w]
                rfl
              refine one_ (i := 6) (N := some 22) #[true, true, true, true, true, true, true, false] rfl rfl (one_of HT_.out (by kernel_rfl)) (by decide) (fun K hK => ?_)
              refine goes_ Try.func94 (by kernel_rfl) rfl #[.agg #[.string a0_0, .int .i64 a0_1, .int .u8 a0_2], .int .i64 ((rd_T81 y154 x12_1).f0), .int .i64 ((rd_T81 y154 x12_1).f1)] (by rfl) rfl rfl (by (try simp only [List.map_toArray, List.map_cons, List.map_nil]); first | done | rfl | (simp only [List.length_drop, List.length_take]; rfl)) ?_
              with_reducible refine (reach_view_step.calls a0_0 a0_1 a0_2 ((rd_T81 y154 x12_1).f0) ((rd_T81 y154 x12_1).f1) t159 _ A9.out).mono ?_
              rintro e w34 ⟨rfl, hb⟩
              refine ⟨_, rfl, ?_⟩
              have n0_ := Aside0.mk (Kd.R_below (by (with_reducible repeat (first | apply Kd.R_alloc | apply Kd.R_drewN | apply Kd.R_drew)); exact HO_3.out) hb)
              have n1_ := Aside0.mk (Kd.R_below (by (with_reducible repeat (first | apply Kd.R_alloc | apply Kd.R_drewN | apply Kd.R_drew)); exact HO_10.out) hb)
              have n2_ := Aside0.mk (blk_below (g := gb153) (o := .cells #[.string a0_0, .int .i64 a0_1, .int .u8 a0_2] 53 (0, 0)) (by (with_reducible repeat (first | refine blk_drewN ?_ _ | refine blk_drew ?_ | refine blk_alloc ?_ _)); exact BK153.out) hb)
              have n3_ := Aside0.mk (blk_below (g := gb158) (o := .cells #[.int .i64 ((rd_T81 y154 x12_1).f0), .int .i64 ((rd_T81 y154 x12_1).f1)] 81 (0, 0)) (by (with_reducible repeat (first | refine blk_drewN ?_ _ | refine blk_drew ?_ | refine blk_alloc ?_ _)); exact BK158.out) hb)
              have n4_ := Aside0.mk (below_step (by repeat (first | (with_reducible first | exact HB.out | apply below_alloc | apply pw_below_drewN | apply below_drew1 | refine below_set ?_ GE153.out | refine below_set ?_ GE158.out) | exact HB.out)) hb)
              clear HO_3
              clear HO_10
              clear BK153
              clear BK158
              clear HB
              have HO_3 := n0_
              have HO_10 := n1_
              have BK153 := n2_
              have BK158 := n3_
              have HB := n4_
              clear n0_ n1_ n2_ n3_ n4_
              (try clear hb)
              (try clear hb2)
              (try clear hk)
              (try clear hi)
              refine hK.out _ _ ⟨(blk_cell BK153.out 0).trans rfl, (blk_cell BK153.out 1).trans rfl, (blk_cell BK153.out 2).trans rfl, (blk_cell BK158.out 0).trans rfl, (blk_cell BK158.out 1).trans rfl⟩ (fun hHeld => ?_)
              clear hK K
              refine norm_ (a' := ?_) ?_ ?_
              rotate_left
              · show Act.put _ (some 22) _ = _
                simp only [Act.put, List.setIfInBounds_toArray, List.set_cons_zero, List.set_cons_succ, i64_w, i32_w]
                rfl
              refine one_ (i := 7) (N := some 23) #[true, true, true, true, true, true, true, true] rfl rfl (one_of HT_.out (by kernel_rfl)) (by decide) (fun K hK => ?_)
              refine goes_ Try.func93 (by kernel_rfl) rfl #[.agg #[.string a0_0, .int .i64 a0_1, .int .u8 a0_2], .int .i64 t159] (by rfl) rfl rfl (by (try simp only [List.map_toArray, List.map_cons, List.map_nil]); first | done | rfl | (simp only [List.length_drop, List.length_take]; rfl)) ?_
              with_reducible refine (reach_view_empty.calls a0_0 a0_1 a0_2 t159 false _ A10.out).mono ?_
              rintro e w35 ⟨rfl, hb⟩
              refine ⟨_, rfl, ?_⟩
              have n0_ := Aside0.mk (Kd.R_below (by (with_reducible repeat (first | apply Kd.R_alloc | apply Kd.R_drewN | apply Kd.R_drew)); exact HO_3.out) hb)
              have n1_ := Aside0.mk (Kd.R_below (by (with_reducible repeat (first | apply Kd.R_alloc | apply Kd.R_drewN | apply Kd.R_drew)); exact HO_10.out) hb)
              have n2_ := Aside0.mk (blk_below (g := gb153) (o := .cells #[.string a0_0, .int .i64 a0_1, .int .u8 a0_2] 53 (0, 0)) (by (with_reducible repeat (first | refine blk_drewN ?_ _ | refine blk_drew ?_ | refine blk_alloc ?_ _)); exact BK153.out) hb)
              have n3_ := Aside0.mk (blk_below (g := gb158) (o := .cells #[.int .i64 ((rd_T81 y154 x12_1).f0), .int .i64 ((rd_T81 y154 x12_1).f1)] 81 (0, 0)) (by (with_reducible repeat (first | refine blk_drewN ?_ _ | refine blk_drew ?_ | refine blk_alloc ?_ _)); exact BK158.out) hb)
              have n4_ := Aside0.mk (below_step (by repeat (first | (with_reducible first | exact HB.out | apply below_alloc | apply pw_below_drewN | apply below_drew1 | refine below_set ?_ GE153.out | refine below_set ?_ GE158.out) | exact HB.out)) hb)
              clear HO_3
              clear HO_10
              clear BK153
              clear BK158
              clear HB
              have HO_3 := n0_
              have HO_10 := n1_
              have BK153 := n2_
              have BK158 := n3_
              have HB := n4_
              clear n0_ n1_ n2_ n3_ n4_
              (try clear hb)
              (try clear hb2)
              (try clear hk)
              (try clear hi)
              refine hK.out _ _ ⟨(blk_cell BK153.out 0).trans rfl, (blk_cell BK153.out 1).trans rfl, (blk_cell BK153.out 2).trans rfl, (blk_cell BK158.out 0).trans rfl, (blk_cell BK158.out 1).trans rfl⟩ (fun hHeld => ?_)
              clear hK K
              refine norm_ (a' := ?_) ?_ ?_
              rotate_left
              · show Act.put _ (some 23) _ = _
                simp only [Act.put, List.setIfInBounds_toArray, List.set_cons_zero, List.set_cons_succ, i64_w, i32_w]
                rfl
              refine done_ (done_of HT_.out (by kernel_rfl)) ?_
              try go_wp2
              go_roundg k1
              case measure => have := HK1.out; omega
              case rel => exact ⟨(x3_1), (wrap64 (x12_1 + 1)), (by first | rfl | (simp; done) | (simp [*]; done)), H', ⟨by have := HK1.out; omega⟩, ⟨by (with_reducible repeat (first | apply Kd.R_alloc | apply Kd.R_drewN | apply Kd.R_drew)); exact HO_3.out⟩, ⟨by (with_reducible repeat (first | apply Kd.R_alloc | apply Kd.R_drewN | apply Kd.R_drew)); exact Kd.R_mono HO_10.out (fun _ hk => trivial)⟩, ⟨by (with_reducible repeat (first | refine blk_drewN ?_ _ | refine blk_drew ?_ | refine blk_alloc ?_ _)); exact BK153.out⟩, ⟨by repeat (first | (with_reducible first | exact HB.out | apply below_alloc | apply pw_below_drewN | apply below_drew1 | refine below_set ?_ GE153.out | refine below_set ?_ GE158.out) | exact HB.out)⟩⟩
          · rw [if_neg c8] at H
            exact absurd H (by simp)
        · rw [if_neg c7] at H
          exact absurd H (by simp)
      · rw [if_neg c6] at H
        have c6b0 : decide (x12_1 < (y154.length : Int)) = false := decide_eq_false c6
        clear c6
        obtain rfl := Option.some.inj H
        go_wp2
        go_ret
        exact ⟨_, by first | rfl | (simp [errW_none, errW_some] <;> rfl) | (simp [*, errW_none, errW_some] <;> rfl), by (with_reducible repeat (first | apply Kd.R_alloc | apply Kd.R_drewN | apply Kd.R_drew)); exact HO_3.out, by repeat (first | (with_reducible first | exact HB.out | apply below_alloc | apply pw_below_drewN | apply below_drew1 | refine below_set ?_ GE153.out) | exact HB.out)⟩

end Go.Proofs.Ytcanbidenhcohaa.P

/- reach's elephant: the squares two steps aslant on which it may stand, the square half-way empty. -/
namespace Go.Proofs.Ytcanbidenhcohaa.P
open Go.RowKit Go.Lib Go.Proofs.YtcanbidenhcohaaW.PrintWords Go.Proofs.YtcanbidenhcohaaW.PrintLast Go.Proofs.YtcanbidenhcohaaW.PrintMore
set_option linter.unusedVariables false
set_option linter.unusedSimpArgs false

theorem elephant_closure (s : ByteArray) (n c : Int) (x : Int) (r : Bool) (B : Nat) (W : World) (hr : reach_view_empty.f s n c (wrap64 (Int.tdiv (wrap64 (n + x)) 2)) = some r)
    (hc : W.cell? ⟨B, 0, none⟩ = some (.string s)) (hc1 : W.cell? ⟨B, 1, none⟩ = some (.int .i64 n)) (hc2 : W.cell? ⟨B, 2, none⟩ = some (.int .u8 c)) :
    Calls Try.prog 92 (#[.int .i64 x] ++ #[.pointer (some ⟨B, 0, none⟩)]) W fun e W' => e = .returned (.bool (!r)) ∧ Below W.heap.size W W' := by
  show Calls Try.prog 92 #[.int .i64 x, .pointer (some ⟨B, 0, none⟩)] W _
  have hu := Try.underlying53
  go_enter Try.func92, Try.ntmps92
  go_wp2_with (go_at_call 93; refine (reach_view_empty.calls _ _ _ _ _ _ hr).mono ?_; rintro e w' ⟨rfl, hb⟩)
  go_ret
  exact ⟨rfl, hb⟩

def reach_view_elephant.f (a0_0 : ByteArray) (a0_1 : Int) (a0_2 : Int) : Option (List Int) :=
  (reach_view_four.f a0_0 a0_1 a0_2 2 2).bind fun l => (reach_view_allowed.f a0_0 a0_1 a0_2 l).bind fun l2 => optFilter (fun x => reach_view_empty.f a0_0 a0_1 a0_2 (wrap64 (Int.tdiv (wrap64 (a0_1 + x)) 2))) l2

theorem hbcell {W w1 : World} (hb : Below W.heap.size W w1) : (∀ b o, b < W.heap.size → w1.cell? ⟨b, o, none⟩ = W.cell? ⟨b, o, none⟩) := fun b o h => hb.cell (p := ⟨b, o, none⟩) h

theorem cell_of_blk {W w1 : World} {g : Nat} (h : w1.heap[g]? = W.heap[g]?) (o : Nat) : w1.cell? ⟨g, o, none⟩ = W.cell? ⟨g, o, none⟩ := by unfold World.cell?; simp only [h]
theorem R_above {α : Type} {d : Kd α} {e : Nat} {w w1 : World} {B : Nat} {ok : Nat → Prop} {v : Value} {xs : List α} (h : Kd.R d e w1 B ok v xs) (hB : w.heap.size < B) : Kd.R d e w1 w.heap.size (fun k => k ≠ w.heap.size) v xs :=
  Kd.R_lower (Kd.R_mono (Kd.R_bound h) (fun k hk => by have := hk.2.1; omega)) (Nat.le_of_lt hB)

theorem four_next {w w1 : World} {s : ByteArray} {n c : Int} {t : Nat} {v : Value} {l : List Int} (hB : Below w.heap.size w w)
    (hR : Kd.R (Kd.int .i64) 3 w1 (w.alloc (.cells #[.string s, .int .i64 n, .int .u8 c] t)).drew.heap.size (fun _ => True) v l) (hb : Below (w.alloc (.cells #[.string s, .int .i64 n, .int .u8 c] t)).drew.heap.size (w.alloc (.cells #[.string s, .int .i64 n, .int .u8 c] t)).drew w1) :
    w1.cell? ⟨w.heap.size, 0, none⟩ = some (.string s) ∧ w1.cell? ⟨w.heap.size, 1, none⟩ = some (.int .i64 n) ∧ w1.cell? ⟨w.heap.size, 2, none⟩ = some (.int .u8 c) ∧ Below w.heap.size w w1 ∧ w.heap.size < w1.heap.size ∧ Kd.R (Kd.int .i64) 3 w1 w.heap.size (fun k => k ≠ w.heap.size) v l := by
  have hs : (w.alloc (.cells #[.string s, .int .i64 n, .int .u8 c] t)).drew.heap.size = w.heap.size + 1 := by simp
  have hblk : w1.heap[w.heap.size]? = some (.cells #[.string s, .int .i64 n, .int .u8 c] t (0, 0)) := (hb.block _ (by omega)).trans (blk_drew (blk_new w _))
  have := hb.size
  exact ⟨(blk_cell hblk 0).trans rfl, (blk_cell hblk 1).trans rfl, (blk_cell hblk 2).trans rfl, below_then (below_drew (below_alloc hB _)) (by omega) hb, by omega, R_above hR (by omega)⟩
theorem allowed_next {w w1 w2 : World} {s : ByteArray} {n c : Int} {v : Value} {l : List Int} (c0 : w1.cell? ⟨w.heap.size, 0, none⟩ = some (.string s)) (c1 : w1.cell? ⟨w.heap.size, 1, none⟩ = some (.int .i64 n)) (c2 : w1.cell? ⟨w.heap.size, 2, none⟩ = some (.int .u8 c))
    (z : w.heap.size < w1.heap.size) (hk : Kept w1 w2 (fun k => k ≠ w.heap.size)) (hR : Kd.R (Kd.int .i64) 3 w2 w.heap.size (fun k => k ≠ w.heap.size ∨ w1.heap.size ≤ k) v l) :
    w2.cell? ⟨w.heap.size, 0, none⟩ = some (.string s) ∧ w2.cell? ⟨w.heap.size, 1, none⟩ = some (.int .i64 n) ∧ w2.cell? ⟨w.heap.size, 2, none⟩ = some (.int .u8 c) ∧ Kd.R (Kd.int .i64) 3 w2 w.heap.size (fun k => k ≠ w.heap.size) v l := by
  have hblk := hk.2 w.heap.size z (fun h => h rfl)
  exact ⟨(cell_of_blk hblk 0).trans c0, (cell_of_blk hblk 1).trans c1, (cell_of_blk hblk 2).trans c2, Kd.R_mono hR (fun k hk => hk.elim id (fun h => by omega))⟩

set_option maxHeartbeats 4000000 in
theorem reach_view_elephant.calls (a0_0 : ByteArray) (a0_1 : Int) (a0_2 : Int) (r : List Int) (w : World) (h : reach_view_elephant.f a0_0 a0_1 a0_2 = some r) :
    Calls Try.prog 72 #[.agg #[.string a0_0, .int .i64 a0_1, .int .u8 a0_2]] w fun e w' => ∃ v0_ : Value, e = .returned (v0_) ∧ Kd.R (Kd.int .i64) 3 w' w.heap.size (fun _ => True) v0_ r ∧ Below w.heap.size w w' := by
  unfold reach_view_elephant.f at h
  obtain ⟨l, hl, h⟩ := Option.bind_eq_some_iff.mp h
  obtain ⟨l2, hl2, h⟩ := Option.bind_eq_some_iff.mp h
  unfold optFilter at h
  by_cases hall : l2.all (fun x => (reach_view_empty.f a0_0 a0_1 a0_2 (wrap64 (Int.tdiv (wrap64 (a0_1 + x)) 2))).isSome) = true
  · rw [if_pos hall] at h
    have hr := Option.some.inj h
    clear h
    have hD : ∀ (W : World) (v : Value), W.cell? ⟨w.heap.size, 0, none⟩ = some (.string a0_0) → W.cell? ⟨w.heap.size, 1, none⟩ = some (.int .i64 a0_1) → W.cell? ⟨w.heap.size, 2, none⟩ = some (.int .u8 a0_2) →
        Below w.heap.size w W → Kd.R (Kd.int .i64) 3 W w.heap.size (fun k => k ≠ w.heap.size) v l2 →
        Calls Try.prog 41 #[v, .func (.func 92) #[] #[.pointer (some ⟨w.heap.size, 0, none⟩)]] W fun e w' => ∃ v' : Value, e = .returned v' ∧ Kd.R (Kd.int .i64) 3 w' w.heap.size (fun _ => True) v' r ∧ Below w.heap.size w w' ∧ (∀ o, w'.cell? ⟨w.heap.size, o, none⟩ = W.cell? ⟨w.heap.size, o, none⟩) := by
      intro W v c0 c1 c2 hB hR
      have hD := del_R 92 #[.pointer (some ⟨w.heap.size, 0, none⟩)] (fun x => !(reach_view_empty.f a0_0 a0_1 a0_2 (wrap64 (Int.tdiv (wrap64 (a0_1 + x)) 2))).getD false) (enters_of Try.func92 (by kernel_rfl) rfl) _ v l2 w W hB hR (by
        intro b hb W2 x hx hk
        have hne : b ≠ w.heap.size := hR.1 b hb
        rw [List.all_eq_true] at hall
        obtain ⟨q, hq⟩ := Option.isSome_iff_exists.mp (hall x hx)
        have hlt := World.block_lt_of_cell? W _ c0
        have hblk : W2.heap[w.heap.size]? = W.heap[w.heap.size]? := hk.2 _ hlt (Ne.symm hne) (by simp)
        have hcell : ∀ o, W2.cell? ⟨w.heap.size, o, none⟩ = W.cell? ⟨w.heap.size, o, none⟩ := fun o => by unfold World.cell?; simp only [hblk]
        refine (elephant_closure a0_0 a0_1 a0_2 x q _ W2 hq ((hcell 0).trans c0) ((hcell 1).trans c1) ((hcell 2).trans c2)).mono ?_
        rintro e w' ⟨rfl, hb2⟩
        exact ⟨by simp [hq], hb2⟩)
      refine hD.mono ?_
      rintro e w' ⟨v', rfl, h1, h2, h3⟩
      exact ⟨v', rfl, Kd.R_mono (by simpa [hr] using h1) (fun _ _ => trivial), h2, fun o => cell_of_blk (h3.2 _ (World.block_lt_of_cell? W _ c0) (fun h => h rfl)) o⟩
    have HD := Aside0.mk hD
    have HB := Aside0.mk (Below.refl w.heap.size w)
    clear hr hall hD
    have hu := Try.underlying53
    go_enter Try.func72, Try.ntmps72
    go_wp2_with fail
    go_region_held3 (fun w' => w'.cell? ⟨w.heap.size, 0, none⟩ = some (.string a0_0) ∧ w'.cell? ⟨w.heap.size, 1, none⟩ = some (.int .i64 a0_1) ∧ w'.cell? ⟨w.heap.size, 2, none⟩ = some (.int .u8 a0_2))
      (go_keep)
      (first
        | (go_at_call 91; refine (reach_view_four.calls _ _ _ _ _ _ _ hl).mono ?_; rintro e w1 ⟨v1, rfl, hR1, hb1⟩; obtain ⟨c0, c1, c2, hB1, z1, hRR⟩ := four_next HB.out hR1 hb1; have HB1 := Aside0.mk hB1; have HR1 := Aside0.mk hRR; clear hR1 hb1 hB1 hRR)
        | (go_at_call 90; refine (reach_view_allowed.calls _ _ _ (fun k => k ≠ w.heap.size) _ l l2 w _ HB1.out HR1.out hl2).mono ?_; rintro e w2 ⟨v2, rfl, hR2, hB2, hk2⟩; obtain ⟨d0, d1, d2, hRR⟩ := allowed_next c0 c1 c2 z1 hk2 hR2; have HB2 := Aside0.mk hB2; have HR2 := Aside0.mk hRR; clear hR2 hk2 hB2 hRR)
        | (go_at_call 41; refine (HD.out _ _ d0 d1 d2 HB2.out HR2.out).mono ?_; rintro e w3 ⟨v3, rfl, hR3, hB3, hk3⟩; have f0 := (hk3 0).trans d0; have f1 := (hk3 1).trans d1; have f2 := (hk3 2).trans d2; have HB3 := Aside0.mk hB3; have HR3 := Aside0.mk hR3; clear hk3 hB3 hR3))
    all_goals
      go_wp2
      go_ret
      exact ⟨_, rfl, HR3.out, HB3.out⟩
  · rw [if_neg hall] at h
    cases h
end Go.Proofs.Ytcanbidenhcohaa.P
