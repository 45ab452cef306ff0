/- Walks and plain laws that several statements lean on, joined: no statement of the seat is proved here. -/
import Derived.Deep.QuietTactic
import Derived.BigQuiet
import Derived.Test.YtcanbidenhcohaaB3
import Derived.Test.YtcanbidenhcohaaB5
import Derived.Test.YtcanbidenhcohaaB4
import Derived.Test.YtcanbidenhcohaaB2
import Derived.Test.YtcanbidenhcohaaB1

/- Walks of Go functions, one Lean function and one contract for each, written by a program of this session out of the translation. -/
namespace Go.Proofs.Ytcanbidenhcohaa.P
open Go.RowKit Go.Proofs.YtcanbidenhcohaaW.PrintWords Go.Proofs.YtcanbidenhcohaaW.PrintLast Go.Proofs.YtcanbidenhcohaaW.PrintMore
attribute [local go_sem] max2_int min2_int max_two min_two max_three min_three max_four min_four   -- for this text's walks alone
set_option linter.unusedVariables false
set_option linter.unusedSimpArgs false

/-! ### riverbankref05_pawn: function 109 -/
def riverbankref05_pawn.j0 : Nat → Int → Int → Int → Int → Option (Bool)
  | 0, _, _, _, _ => none
  | k + 1, x0, x1, x2, x7 => if x2 = (wrap64 (x1 + x7)) then (some true) else ((riverbankref03_Over.f x1 x0).bind fun t280 => (if t280 = true then (if (wrap64 (Int.tdiv x1 9)) = (wrap64 (Int.tdiv x2 9)) then ((riverbankref05_away.f x1 x2).bind fun t281 => (some (t281 == 1))) else (some false)) else (some false)))
def riverbankref05_pawn.f (k : Nat) (a0 : Int) (a1 : Int) (a2 : Int) : Option (Bool) := if a0 = 1 then (riverbankref05_pawn.j0 k a0 a1 a2 (-9)) else (riverbankref05_pawn.j0 k a0 a1 a2 9)
theorem riverbankref05_pawn.mono_l : ∀ k, (∀ y0 y1 y2 y3, LeO (riverbankref05_pawn.j0 k y0 y1 y2 y3) (riverbankref05_pawn.j0 (k + 1) y0 y1 y2 y3))
  | 0 => fun _ _ _ _ r h => by simp [riverbankref05_pawn.j0] at h
  | k + 1 => by
    have ih0 := riverbankref05_pawn.mono_l k
    · intro y0 y1 y2 y3
      unfold riverbankref05_pawn.j0
      repeat' first
      | (with_reducible exact ih0 _ _ _ _)
      | (with_reducible exact LeO.refl _)
      | (with_reducible exact LeO.none _)
      | (with_reducible refine LeO.ite ?_ ?_)
      | (with_reducible refine LeO.bind ?_ (fun _ => ?_))
      | exact ih0 _ _ _ _
      | exact LeO.none _
      | refine LeO.ite ?_ ?_
      | refine LeO.bind ?_ (fun _ => ?_)
theorem riverbankref05_pawn.mono : ∀ a0 a1 a2 k, LeO (riverbankref05_pawn.f k a0 a1 a2) (riverbankref05_pawn.f (k + 1) a0 a1 a2) := by
  intro a0 a1 a2 k
  have ih0 := riverbankref05_pawn.mono_l k
  unfold riverbankref05_pawn.f
  repeat' first
      | (with_reducible exact ih0 _ _ _ _)
      | (with_reducible exact LeO.refl _)
      | (with_reducible exact LeO.none _)
      | (with_reducible refine LeO.ite ?_ ?_)
      | (with_reducible refine LeO.bind ?_ (fun _ => ?_))
      | exact ih0 _ _ _ _
      | exact LeO.none _
      | refine LeO.ite ?_ ?_
      | refine LeO.bind ?_ (fun _ => ?_)
set_option maxHeartbeats 8000000 in
set_option maxRecDepth 100000 in
theorem riverbankref05_pawn.calls (k : Nat) (a0 : Int) (a1 : Int) (a2 : Int) (r : Bool) (w : World) (h : riverbankref05_pawn.f k a0 a1 a2 = some r) :
    Calls Try.prog 109 #[.int .i64 a0, .int .i64 a1, .int .i64 a2] w fun e w' => e = .returned (.bool r) ∧ Below w.heap.size w w' := by
  have HB := Aside0.mk (Below.refl w.heap.size w)
  have H : (if a0 = 1 then (riverbankref05_pawn.j0 k a0 a1 a2 (-9)) else (riverbankref05_pawn.j0 k a0 a1 a2 9)) = some r := h
  clear h
  have HC4 := Aside0.mk H
  clear H
  go_enter Try.func109, Try.ntmps109
  go_upto_if 9 with (fail)
  go_cut [7] (fun v7 wc => ∃ (kq : Nat) (x7_3 : Int), v7 = .int .i64 x7_3 ∧ Aside0 (riverbankref05_pawn.j0 kq a0 a1 a2 x7_3 = some r) ∧ Aside0 (kq ≤ k) ∧ Aside0 (Below w.heap.size w wc))
  case first =>
    have H := HC4.out
    clear HC4
    by_cases c5 : a0 = 1
    · rw [if_pos c5] at H
      have c5b0 : (a0 == 1) = true := beq_iff_eq.mpr c5
      have c5b1 : (a0 != 1) = false := bne_eq_false_iff_eq.mpr c5
      clear c5
      (first | rw [c5b0] | (simp only [i64_w, i32_w]; rw [c5b0]) | skip)
      have H' := Aside0.mk H
      clear H
      go_wp2
      go_meet
      case rel => exact ⟨_, ((-9)), (by first | rfl | (simp; done) | (simp [*]; done)), H', ⟨by first | omega | exact Nat.le_refl _⟩, ⟨by repeat (first | (with_reducible first | exact HB.out | apply below_alloc | apply pw_below_drewN | apply below_drew1) | exact HB.out)⟩⟩
    · rw [if_neg c5] at H
      have c5b0 : (a0 == 1) = false := beq_eq_false_iff_ne.mpr c5
      have c5b1 : (a0 != 1) = true := bne_iff_ne.mpr c5
      (first | rw [c5b0] | (simp only [i64_w, i32_w]; rw [c5b0]) | skip)
      have H' := Aside0.mk H
      clear H
      go_wp2
      go_meet
      case rel => exact ⟨_, (9), (by first | rfl | (simp; done) | (simp [*]; done)), H', ⟨by first | omega | exact Nat.le_refl _⟩, ⟨by repeat (first | (with_reducible first | exact HB.out | apply below_alloc | apply pw_below_drewN | apply below_drew1) | exact HB.out)⟩⟩
  case rest =>
    clear HC4
    try clear c1
    try clear p2
    try clear c5
    try clear c5b0
    try clear c5b1
    obtain ⟨kq, x7_3, rfl, HA, HJ3, HB⟩ := hcut
    cases kq with
    | zero => exact absurd HA.out (by simp [riverbankref05_pawn.j0])
    | succ kj3 =>
      have H := HA.out
      clear HA
      simp only [riverbankref05_pawn.j0] at H
      by_cases c6 : a2 = (wrap64 (a1 + x7_3))
      · rw [if_pos c6] at H
        have c6b0 : (a2 == (wrap64 (a1 + x7_3))) = true := beq_iff_eq.mpr c6
        have c6b1 : (a2 != (wrap64 (a1 + x7_3))) = false := bne_eq_false_iff_eq.mpr c6
        clear c6
        obtain rfl := Option.some.inj H
        go_wp2
        go_ret
        exact ⟨by first | rfl | (simp [errW_none, errW_some] <;> rfl) | (simp [*, errW_none, errW_some] <;> rfl), by repeat (first | (with_reducible first | exact HB.out | apply below_alloc | apply pw_below_drewN | apply below_drew1) | exact HB.out)⟩
      · rw [if_neg c6] at H
        have c6b0 : (a2 == (wrap64 (a1 + x7_3))) = false := beq_eq_false_iff_ne.mpr c6
        have c6b1 : (a2 != (wrap64 (a1 + x7_3))) = true := bne_iff_ne.mpr c6
        replace H := Option.bind_eq_some_iff.mp H
        obtain ⟨t280, A70, H⟩ := H
        replace H : (if t280 = true then (if (wrap64 (Int.tdiv a1 9)) = (wrap64 (Int.tdiv a2 9)) then ((riverbankref05_away.f a1 a2).bind fun t281 => (some (t281 == 1))) else (some false)) else (some false)) = some r := H
        have A7 := Aside0.mk A70
        clear A70
        by_cases c8 : t280 = true
        · subst c8
          have H1 : (if (wrap64 (Int.tdiv a1 9)) = (wrap64 (Int.tdiv a2 9)) then ((riverbankref05_away.f a1 a2).bind fun t281 => (some (t281 == 1))) else (some false)) = some r := by rw [if_pos rfl] at H; exact H
          clear H
          have H := H1
          clear H1
          by_cases c9 : (wrap64 (Int.tdiv a1 9)) = (wrap64 (Int.tdiv a2 9))
          · rw [if_pos c9] at H
            have c9b0 : ((wrap64 (Int.tdiv a1 9)) == (wrap64 (Int.tdiv a2 9))) = true := beq_iff_eq.mpr c9
            have c9b1 : ((wrap64 (Int.tdiv a1 9)) != (wrap64 (Int.tdiv a2 9))) = false := bne_eq_false_iff_eq.mpr c9
            clear c9
            replace H := Option.bind_eq_some_iff.mp H
            obtain ⟨t281, A100, H⟩ := H
            replace H : (some (t281 == 1)) = some r := H
            have A10 := Aside0.mk A100
            clear A100
            obtain rfl := Option.some.inj H
            go_wp2_with (first | ((with_reducible refine gate_callee (f := 123) rfl ?_); refine goesL_ (some 17) rfl rfl Try.func123 (by kernel_rfl) rfl #[.int .i64 a1, .int .i64 a0] rfl (by (try simp only [List.map_toArray, List.map_cons, List.map_nil]); first | done | rfl | (simp only [List.length_drop, List.length_take]; rfl)) ?_; (with_reducible refine (riverbankref03_Over.calls a1 a0 true _ A7.out).mono ?_); rintro e w' ⟨rfl, ⟨nd, rfl⟩⟩; refine ⟨_, rfl, ?_⟩) | (go_at_call 107; (with_reducible refine (riverbankref05_away.calls a1 a2 t281 _ A10.out).mono ?_); rintro e w11 ⟨rfl, hb⟩; have n0_ := Aside0.mk (below_step (by repeat (first | (with_reducible first | exact HB.out | apply below_alloc | apply pw_below_drewN | apply below_drew1) | exact HB.out)) hb); clear HB; have HB := n0_; clear n0_; (try clear hb); (try clear hb2); (try clear hk); (try clear hi)))
            go_ret
            exact ⟨by first | rfl | (simp [errW_none, errW_some] <;> rfl) | (simp [*, errW_none, errW_some] <;> rfl), by repeat (first | (with_reducible first | exact HB.out | apply below_alloc | apply pw_below_drewN | apply below_drew1) | exact HB.out)⟩
          · rw [if_neg c9] at H
            have c9b0 : ((wrap64 (Int.tdiv a1 9)) == (wrap64 (Int.tdiv a2 9))) = false := beq_eq_false_iff_ne.mpr c9
            have c9b1 : ((wrap64 (Int.tdiv a1 9)) != (wrap64 (Int.tdiv a2 9))) = true := bne_iff_ne.mpr c9
            obtain rfl := Option.some.inj H
            go_wp2_with (first | ((with_reducible refine gate_callee (f := 123) rfl ?_); refine goesL_ (some 17) rfl rfl Try.func123 (by kernel_rfl) rfl #[.int .i64 a1, .int .i64 a0] rfl (by (try simp only [List.map_toArray, List.map_cons, List.map_nil]); first | done | rfl | (simp only [List.length_drop, List.length_take]; rfl)) ?_; (with_reducible refine (riverbankref03_Over.calls a1 a0 true _ A7.out).mono ?_); rintro e w' ⟨rfl, ⟨nd, rfl⟩⟩; refine ⟨_, rfl, ?_⟩))
            go_ret
            exact ⟨by first | rfl | (simp [errW_none, errW_some] <;> rfl) | (simp [*, errW_none, errW_some] <;> rfl), by repeat (first | (with_reducible first | exact HB.out | apply below_alloc | apply pw_below_drewN | apply below_drew1) | exact HB.out)⟩
        · replace c8 := Bool.eq_false_iff.mpr c8
          subst c8
          have H1 : (some false) = some r := by rw [if_neg (show ¬ (false = true) by decide)] at H; exact H
          clear H
          have H := H1
          clear H1
          obtain rfl := Option.some.inj H
          go_wp2_with (first | ((with_reducible refine gate_callee (f := 123) rfl ?_); refine goesL_ (some 17) rfl rfl Try.func123 (by kernel_rfl) rfl #[.int .i64 a1, .int .i64 a0] rfl (by (try simp only [List.map_toArray, List.map_cons, List.map_nil]); first | done | rfl | (simp only [List.length_drop, List.length_take]; rfl)) ?_; (with_reducible refine (riverbankref03_Over.calls a1 a0 false _ A7.out).mono ?_); rintro e w' ⟨rfl, ⟨nd, rfl⟩⟩; refine ⟨_, rfl, ?_⟩))
          go_ret
          exact ⟨by first | rfl | (simp [errW_none, errW_some] <;> rfl) | (simp [*, errW_none, errW_some] <;> rfl), by repeat (first | (with_reducible first | exact HB.out | apply below_alloc | apply pw_below_drewN | apply below_drew1) | exact HB.out)⟩

/-! ### riverbankref05_can: function 79 -/
def riverbankref05_can.f (k : Nat) (a0 : ByteArray) (a1 : Int) (a2 : Int) : Option (Bool) := if 0 ≤ a1 then (if a1 < (a0.size : Int) then ((riverbankref05_away.f (Int.tmod a1 9) (Int.tmod a2 9)).bind fun t282 => ((riverbankref05_away.f (wrap64 (Int.tdiv a1 9)) (wrap64 (Int.tdiv a2 9))).bind fun t283 => ((riverbankref02_Kind.f k (bt a0 a1)).bind fun t284 => (if t284 = 75 then (if (wrap64 (t282 + t283)) = 1 then ((riverbankref03_May.f k (bt a0 a1) a2).bind fun t285 => (some t285)) else (some false)) else (if t284 = 65 then (if t282 = 1 then (if t283 = 1 then ((riverbankref03_May.f k (bt a0 a1) a2).bind fun t286 => (some t286)) else (some false)) else (some false)) else (if t284 = 66 then (if t282 = 2 then (if t283 = 2 then ((riverbankref03_May.f k (bt a0 a1) a2).bind fun t287 => (if t287 = true then (if 0 ≤ (wrap64 (Int.tdiv (wrap64 (a1 + a2)) 2)) then (if (wrap64 (Int.tdiv (wrap64 (a1 + a2)) 2)) < (a0.size : Int) then (some ((bt a0 (wrap64 (Int.tdiv (wrap64 (a1 + a2)) 2))) == 46)) else (none)) else (none)) else (some false))) else (some false)) else (some false)) else (if t284 = 78 then ((riverbankref05_horse.f k a0 a1 a2).bind fun t288 => (some t288)) else (if t284 = 82 then ((riverbankref05_between.f k a0 a1 a2).bind fun t289 => (some (t289 == 0))) else (if t284 = 67 then ((riverbankref05_between.f k a0 a1 a2).bind fun t290 => (if t290 = 0 then (if 0 ≤ a2 then (if a2 < (a0.size : Int) then (if (bt a0 a2) = 46 then (some true) else (if t290 = 1 then (some ((bt a0 a2) != 46)) else (some false))) else (none)) else (none)) else (if t290 = 1 then (if 0 ≤ a2 then (if a2 < (a0.size : Int) then (some ((bt a0 a2) != 46)) else (none)) else (none)) else (some false)))) else ((riverbankref02_Side.f k (bt a0 a1)).bind fun t291 => ((riverbankref05_pawn.f k t291 a1 a2).bind fun t292 => (some t292)))))))))))) else (none)) else (none)
theorem riverbankref05_can.mono : ∀ a0 a1 a2 k, LeO (riverbankref05_can.f k a0 a1 a2) (riverbankref05_can.f (k + 1) a0 a1 a2) := by
  intro a0 a1 a2 k
  unfold riverbankref05_can.f
  repeat' first
      | (with_reducible exact riverbankref02_Kind.mono _ _)
      | (with_reducible exact riverbankref02_Side.mono _ _)
      | (with_reducible exact riverbankref03_May.mono _ _ _)
      | (with_reducible exact riverbankref05_between.mono _ _ _ _)
      | (with_reducible exact riverbankref05_horse.mono _ _ _ _)
      | (with_reducible exact riverbankref05_pawn.mono _ _ _ _)
      | (with_reducible exact LeO.refl _)
      | (with_reducible exact LeO.none _)
      | (with_reducible refine LeO.ite ?_ ?_)
      | (with_reducible refine LeO.bind ?_ (fun _ => ?_))
      | exact riverbankref02_Kind.mono _ _
      | exact riverbankref02_Side.mono _ _
      | exact riverbankref03_May.mono _ _ _
      | exact riverbankref05_between.mono _ _ _ _
      | exact riverbankref05_horse.mono _ _ _ _
      | exact riverbankref05_pawn.mono _ _ _ _
      | exact LeO.none _
      | refine LeO.ite ?_ ?_
      | refine LeO.bind ?_ (fun _ => ?_)
set_option maxHeartbeats 8000000 in
set_option maxRecDepth 100000 in
theorem riverbankref05_can.calls (k : Nat) (a0 : ByteArray) (a1 : Int) (a2 : Int) (r : Bool) (w : World) (h : riverbankref05_can.f k a0 a1 a2 = some r) :
    Calls Try.prog 79 #[.string a0, .int .i64 a1, .int .i64 a2] w fun e w' => e = .returned (.bool r) ∧ Below w.heap.size w w' := by
  have HB := Aside0.mk (Below.refl w.heap.size w)
  have H : (if 0 ≤ a1 then (if a1 < (a0.size : Int) then ((riverbankref05_away.f (Int.tmod a1 9) (Int.tmod a2 9)).bind fun t282 => ((riverbankref05_away.f (wrap64 (Int.tdiv a1 9)) (wrap64 (Int.tdiv a2 9))).bind fun t283 => ((riverbankref02_Kind.f k (bt a0 a1)).bind fun t284 => (if t284 = 75 then (if (wrap64 (t282 + t283)) = 1 then ((riverbankref03_May.f k (bt a0 a1) a2).bind fun t285 => (some t285)) else (some false)) else (if t284 = 65 then (if t282 = 1 then (if t283 = 1 then ((riverbankref03_May.f k (bt a0 a1) a2).bind fun t286 => (some t286)) else (some false)) else (some false)) else (if t284 = 66 then (if t282 = 2 then (if t283 = 2 then ((riverbankref03_May.f k (bt a0 a1) a2).bind fun t287 => (if t287 = true then (if 0 ≤ (wrap64 (Int.tdiv (wrap64 (a1 + a2)) 2)) then (if (wrap64 (Int.tdiv (wrap64 (a1 + a2)) 2)) < (a0.size : Int) then (some ((bt a0 (wrap64 (Int.tdiv (wrap64 (a1 + a2)) 2))) == 46)) else (none)) else (none)) else (some false))) else (some false)) else (some false)) else (if t284 = 78 then ((riverbankref05_horse.f k a0 a1 a2).bind fun t288 => (some t288)) else (if t284 = 82 then ((riverbankref05_between.f k a0 a1 a2).bind fun t289 => (some (t289 == 0))) else (if t284 = 67 then ((riverbankref05_between.f k a0 a1 a2).bind fun t290 => (if t290 = 0 then (if 0 ≤ a2 then (if a2 < (a0.size : Int) then (if (bt a0 a2) = 46 then (some true) else (if t290 = 1 then (some ((bt a0 a2) != 46)) else (some false))) else (none)) else (none)) else (if t290 = 1 then (if 0 ≤ a2 then (if a2 < (a0.size : Int) then (some ((bt a0 a2) != 46)) else (none)) else (none)) else (some false)))) else ((riverbankref02_Side.f k (bt a0 a1)).bind fun t291 => ((riverbankref05_pawn.f k t291 a1 a2).bind fun t292 => (some t292)))))))))))) else (none)) else (none)) = some r := h
  clear h
  by_cases c4 : 0 ≤ a1
  · rw [if_pos c4] at H
    have c4b0 : decide (0 ≤ a1) = true := decide_eq_true c4
    clear c4
    by_cases c5 : a1 < (a0.size : Int)
    · rw [if_pos c5] at H
      have c5b0 : decide (a1 < (a0.size : Int)) = true := decide_eq_true c5
      clear c5
      replace H := Option.bind_eq_some_iff.mp H
      obtain ⟨t282, A70, H⟩ := H
      replace H : ((riverbankref05_away.f (wrap64 (Int.tdiv a1 9)) (wrap64 (Int.tdiv a2 9))).bind fun t283 => ((riverbankref02_Kind.f k (bt a0 a1)).bind fun t284 => (if t284 = 75 then (if (wrap64 (t282 + t283)) = 1 then ((riverbankref03_May.f k (bt a0 a1) a2).bind fun t285 => (some t285)) else (some false)) else (if t284 = 65 then (if t282 = 1 then (if t283 = 1 then ((riverbankref03_May.f k (bt a0 a1) a2).bind fun t286 => (some t286)) else (some false)) else (some false)) else (if t284 = 66 then (if t282 = 2 then (if t283 = 2 then ((riverbankref03_May.f k (bt a0 a1) a2).bind fun t287 => (if t287 = true then (if 0 ≤ (wrap64 (Int.tdiv (wrap64 (a1 + a2)) 2)) then (if (wrap64 (Int.tdiv (wrap64 (a1 + a2)) 2)) < (a0.size : Int) then (some ((bt a0 (wrap64 (Int.tdiv (wrap64 (a1 + a2)) 2))) == 46)) else (none)) else (none)) else (some false))) else (some false)) else (some false)) else (if t284 = 78 then ((riverbankref05_horse.f k a0 a1 a2).bind fun t288 => (some t288)) else (if t284 = 82 then ((riverbankref05_between.f k a0 a1 a2).bind fun t289 => (some (t289 == 0))) else (if t284 = 67 then ((riverbankref05_between.f k a0 a1 a2).bind fun t290 => (if t290 = 0 then (if 0 ≤ a2 then (if a2 < (a0.size : Int) then (if (bt a0 a2) = 46 then (some true) else (if t290 = 1 then (some ((bt a0 a2) != 46)) else (some false))) else (none)) else (none)) else (if t290 = 1 then (if 0 ≤ a2 then (if a2 < (a0.size : Int) then (some ((bt a0 a2) != 46)) else (none)) else (none)) else (some false)))) else ((riverbankref02_Side.f k (bt a0 a1)).bind fun t291 => ((riverbankref05_pawn.f k t291 a1 a2).bind fun t292 => (some t292))))))))))) = some r := H
      have A7 := Aside0.mk A70
      clear A70
      replace H := Option.bind_eq_some_iff.mp H
      obtain ⟨t283, A80, H⟩ := H
      replace H : ((riverbankref02_Kind.f k (bt a0 a1)).bind fun t284 => (if t284 = 75 then (if (wrap64 (t282 + t283)) = 1 then ((riverbankref03_May.f k (bt a0 a1) a2).bind fun t285 => (some t285)) else (some false)) else (if t284 = 65 then (if t282 = 1 then (if t283 = 1 then ((riverbankref03_May.f k (bt a0 a1) a2).bind fun t286 => (some t286)) else (some false)) else (some false)) else (if t284 = 66 then (if t282 = 2 then (if t283 = 2 then ((riverbankref03_May.f k (bt a0 a1) a2).bind fun t287 => (if t287 = true then (if 0 ≤ (wrap64 (Int.tdiv (wrap64 (a1 + a2)) 2)) then (if (wrap64 (Int.tdiv (wrap64 (a1 + a2)) 2)) < (a0.size : Int) then (some ((bt a0 (wrap64 (Int.tdiv (wrap64 (a1 + a2)) 2))) == 46)) else (none)) else (none)) else (some false))) else (some false)) else (some false)) else (if t284 = 78 then ((riverbankref05_horse.f k a0 a1 a2).bind fun t288 => (some t288)) else (if t284 = 82 then ((riverbankref05_between.f k a0 a1 a2).bind fun t289 => (some (t289 == 0))) else (if t284 = 67 then ((riverbankref05_between.f k a0 a1 a2).bind fun t290 => (if t290 = 0 then (if 0 ≤ a2 then (if a2 < (a0.size : Int) then (if (bt a0 a2) = 46 then (some true) else (if t290 = 1 then (some ((bt a0 a2) != 46)) else (some false))) else (none)) else (none)) else (if t290 = 1 then (if 0 ≤ a2 then (if a2 < (a0.size : Int) then (some ((bt a0 a2) != 46)) else (none)) else (none)) else (some false)))) else ((riverbankref02_Side.f k (bt a0 a1)).bind fun t291 => ((riverbankref05_pawn.f k t291 a1 a2).bind fun t292 => (some t292)))))))))) = some r := H
      have A8 := Aside0.mk A80
      clear A80
      replace H := Option.bind_eq_some_iff.mp H
      obtain ⟨t284, A90, H⟩ := H
      replace H : (if t284 = 75 then (if (wrap64 (t282 + t283)) = 1 then ((riverbankref03_May.f k (bt a0 a1) a2).bind fun t285 => (some t285)) else (some false)) else (if t284 = 65 then (if t282 = 1 then (if t283 = 1 then ((riverbankref03_May.f k (bt a0 a1) a2).bind fun t286 => (some t286)) else (some false)) else (some false)) else (if t284 = 66 then (if t282 = 2 then (if t283 = 2 then ((riverbankref03_May.f k (bt a0 a1) a2).bind fun t287 => (if t287 = true then (if 0 ≤ (wrap64 (Int.tdiv (wrap64 (a1 + a2)) 2)) then (if (wrap64 (Int.tdiv (wrap64 (a1 + a2)) 2)) < (a0.size : Int) then (some ((bt a0 (wrap64 (Int.tdiv (wrap64 (a1 + a2)) 2))) == 46)) else (none)) else (none)) else (some false))) else (some false)) else (some false)) else (if t284 = 78 then ((riverbankref05_horse.f k a0 a1 a2).bind fun t288 => (some t288)) else (if t284 = 82 then ((riverbankref05_between.f k a0 a1 a2).bind fun t289 => (some (t289 == 0))) else (if t284 = 67 then ((riverbankref05_between.f k a0 a1 a2).bind fun t290 => (if t290 = 0 then (if 0 ≤ a2 then (if a2 < (a0.size : Int) then (if (bt a0 a2) = 46 then (some true) else (if t290 = 1 then (some ((bt a0 a2) != 46)) else (some false))) else (none)) else (none)) else (if t290 = 1 then (if 0 ≤ a2 then (if a2 < (a0.size : Int) then (some ((bt a0 a2) != 46)) else (none)) else (none)) else (some false)))) else ((riverbankref02_Side.f k (bt a0 a1)).bind fun t291 => ((riverbankref05_pawn.f k t291 a1 a2).bind fun t292 => (some t292))))))))) = some r := H
      have A9 := Aside0.mk A90
      clear A90
      by_cases c10 : t284 = 75
      · rw [if_pos c10] at H
        have c10b0 : (t284 == 75) = true := beq_iff_eq.mpr c10
        have c10b1 : (t284 != 75) = false := bne_eq_false_iff_eq.mpr c10
        clear c10
        by_cases c11 : (wrap64 (t282 + t283)) = 1
        · rw [if_pos c11] at H
          have c11b0 : ((wrap64 (t282 + t283)) == 1) = true := beq_iff_eq.mpr c11
          have c11b1 : ((wrap64 (t282 + t283)) != 1) = false := bne_eq_false_iff_eq.mpr c11
          clear c11
          replace H := Option.bind_eq_some_iff.mp H
          obtain ⟨t285, A120, H⟩ := H
          replace H : (some t285) = some r := H
          have A12 := Aside0.mk A120
          clear A120
          obtain rfl := Option.some.inj H
          have p6 : 0 ≤ (a1 : Int) := of_decide_eq_true (by first | (with_reducible assumption) | assumption)
          have q6 : a1 < (a0.size : Int) := of_decide_eq_true (by first | (with_reducible assumption) | assumption)
          have hx6 := bt_at a0 a1
          replace p6 := eq_true p6
          replace q6 := eq_true q6
          go_enter Try.func79, Try.ntmps79
          go_wp2_with (first | ((with_reducible refine gate_callee (f := 107) rfl ?_); refine goesL_ (some 18) rfl rfl Try.func107 (by kernel_rfl) rfl #[.int .i64 (Int.tmod a1 9), .int .i64 (Int.tmod a2 9)] rfl (by (try simp only [List.map_toArray, List.map_cons, List.map_nil]); first | done | rfl | (simp only [List.length_drop, List.length_take]; rfl)) ?_; (with_reducible refine (riverbankref05_away.calls (Int.tmod a1 9) (Int.tmod a2 9) t282 _ A7.out).mono ?_); rintro e w13 ⟨rfl, hb⟩; refine ⟨_, rfl, ?_⟩; have n0_ := Aside0.mk (below_step (by repeat (first | (with_reducible first | exact HB.out | apply below_alloc | apply pw_below_drewN | apply below_drew1) | exact HB.out)) hb); clear HB; have HB := n0_; clear n0_; (try clear hb); (try clear hb2); (try clear hk); (try clear hi)) | ((with_reducible refine gate_callee (f := 107) rfl ?_); refine goesL_ (some 23) rfl rfl Try.func107 (by kernel_rfl) rfl #[.int .i64 (wrap64 (Int.tdiv a1 9)), .int .i64 (wrap64 (Int.tdiv a2 9))] rfl (by (try simp only [List.map_toArray, List.map_cons, List.map_nil]); first | done | rfl | (simp only [List.length_drop, List.length_take]; rfl)) ?_; (with_reducible refine (riverbankref05_away.calls (wrap64 (Int.tdiv a1 9)) (wrap64 (Int.tdiv a2 9)) t283 _ A8.out).mono ?_); rintro e w14 ⟨rfl, hb⟩; refine ⟨_, rfl, ?_⟩; have n0_ := Aside0.mk (below_step (by repeat (first | (with_reducible first | exact HB.out | apply below_alloc | apply pw_below_drewN | apply below_drew1) | exact HB.out)) hb); clear HB; have HB := n0_; clear n0_; (try clear hb); (try clear hb2); (try clear hk); (try clear hi)) | ((with_reducible refine gate_callee (f := 33) rfl ?_); refine goesL_ (some 25) rfl rfl Try.func33 (by kernel_rfl) rfl #[.int .u8 (bt a0 a1)] rfl (by (try simp only [List.map_toArray, List.map_cons, List.map_nil]); first | done | rfl | (simp only [List.length_drop, List.length_take]; rfl)) ?_; (with_reducible refine (riverbankref02_Kind.calls k (bt a0 a1) t284 _ A9.out).mono ?_); rintro e w' ⟨rfl, ⟨nd, rfl⟩⟩; refine ⟨_, rfl, ?_⟩) | (go_at_call 67; (with_reducible refine (riverbankref03_May.calls k (bt a0 a1) a2 t285 _ A12.out).mono ?_); rintro e w' ⟨rfl, ⟨nd, rfl⟩⟩))
          go_ret
          exact ⟨by first | rfl | (simp [errW_none, errW_some] <;> rfl) | (simp [*, errW_none, errW_some] <;> rfl), by repeat (first | (with_reducible first | exact HB.out | apply below_alloc | apply pw_below_drewN | apply below_drew1) | exact HB.out)⟩
        · rw [if_neg c11] at H
          have c11b0 : ((wrap64 (t282 + t283)) == 1) = false := beq_eq_false_iff_ne.mpr c11
          have c11b1 : ((wrap64 (t282 + t283)) != 1) = true := bne_iff_ne.mpr c11
          obtain rfl := Option.some.inj H
          have p6 : 0 ≤ (a1 : Int) := of_decide_eq_true (by first | (with_reducible assumption) | assumption)
          have q6 : a1 < (a0.size : Int) := of_decide_eq_true (by first | (with_reducible assumption) | assumption)
          have hx6 := bt_at a0 a1
          replace p6 := eq_true p6
          replace q6 := eq_true q6
          go_enter Try.func79, Try.ntmps79
          go_wp2_with (first | ((with_reducible refine gate_callee (f := 107) rfl ?_); refine goesL_ (some 18) rfl rfl Try.func107 (by kernel_rfl) rfl #[.int .i64 (Int.tmod a1 9), .int .i64 (Int.tmod a2 9)] rfl (by (try simp only [List.map_toArray, List.map_cons, List.map_nil]); first | done | rfl | (simp only [List.length_drop, List.length_take]; rfl)) ?_; (with_reducible refine (riverbankref05_away.calls (Int.tmod a1 9) (Int.tmod a2 9) t282 _ A7.out).mono ?_); rintro e w15 ⟨rfl, hb⟩; refine ⟨_, rfl, ?_⟩; have n0_ := Aside0.mk (below_step (by repeat (first | (with_reducible first | exact HB.out | apply below_alloc | apply pw_below_drewN | apply below_drew1) | exact HB.out)) hb); clear HB; have HB := n0_; clear n0_; (try clear hb); (try clear hb2); (try clear hk); (try clear hi)) | ((with_reducible refine gate_callee (f := 107) rfl ?_); refine goesL_ (some 23) rfl rfl Try.func107 (by kernel_rfl) rfl #[.int .i64 (wrap64 (Int.tdiv a1 9)), .int .i64 (wrap64 (Int.tdiv a2 9))] rfl (by (try simp only [List.map_toArray, List.map_cons, List.map_nil]); first | done | rfl | (simp only [List.length_drop, List.length_take]; rfl)) ?_; (with_reducible refine (riverbankref05_away.calls (wrap64 (Int.tdiv a1 9)) (wrap64 (Int.tdiv a2 9)) t283 _ A8.out).mono ?_); rintro e w16 ⟨rfl, hb⟩; refine ⟨_, rfl, ?_⟩; have n0_ := Aside0.mk (below_step (by repeat (first | (with_reducible first | exact HB.out | apply below_alloc | apply pw_below_drewN | apply below_drew1) | exact HB.out)) hb); clear HB; have HB := n0_; clear n0_; (try clear hb); (try clear hb2); (try clear hk); (try clear hi)) | ((with_reducible refine gate_callee (f := 33) rfl ?_); refine goesL_ (some 25) rfl rfl Try.func33 (by kernel_rfl) rfl #[.int .u8 (bt a0 a1)] rfl (by (try simp only [List.map_toArray, List.map_cons, List.map_nil]); first | done | rfl | (simp only [List.length_drop, List.length_take]; rfl)) ?_; (with_reducible refine (riverbankref02_Kind.calls k (bt a0 a1) t284 _ A9.out).mono ?_); rintro e w' ⟨rfl, ⟨nd, rfl⟩⟩; refine ⟨_, rfl, ?_⟩))
          go_ret
          exact ⟨by first | rfl | (simp [errW_none, errW_some] <;> rfl) | (simp [*, errW_none, errW_some] <;> rfl), by repeat (first | (with_reducible first | exact HB.out | apply below_alloc | apply pw_below_drewN | apply below_drew1) | exact HB.out)⟩
      · rw [if_neg c10] at H
        have c10b0 : (t284 == 75) = false := beq_eq_false_iff_ne.mpr c10
        have c10b1 : (t284 != 75) = true := bne_iff_ne.mpr c10
        by_cases c17 : t284 = 65
        · rw [if_pos c17] at H
          have c17b0 : (t284 == 65) = true := beq_iff_eq.mpr c17
          have c17b1 : (t284 != 65) = false := bne_eq_false_iff_eq.mpr c17
          clear c17
          by_cases c18 : t282 = 1
          · rw [if_pos c18] at H
            have c18b0 : (t282 == 1) = true := beq_iff_eq.mpr c18
            have c18b1 : (t282 != 1) = false := bne_eq_false_iff_eq.mpr c18
            clear c18
            by_cases c19 : t283 = 1
            · rw [if_pos c19] at H
              have c19b0 : (t283 == 1) = true := beq_iff_eq.mpr c19
              have c19b1 : (t283 != 1) = false := bne_eq_false_iff_eq.mpr c19
              clear c19
              replace H := Option.bind_eq_some_iff.mp H
              obtain ⟨t286, A200, H⟩ := H
              replace H : (some t286) = some r := H
              have A20 := Aside0.mk A200
              clear A200
              obtain rfl := Option.some.inj H
              have p6 : 0 ≤ (a1 : Int) := of_decide_eq_true (by first | (with_reducible assumption) | assumption)
              have q6 : a1 < (a0.size : Int) := of_decide_eq_true (by first | (with_reducible assumption) | assumption)
              have hx6 := bt_at a0 a1
              replace p6 := eq_true p6
              replace q6 := eq_true q6
              go_enter Try.func79, Try.ntmps79
              go_wp2_with (first | ((with_reducible refine gate_callee (f := 107) rfl ?_); refine goesL_ (some 18) rfl rfl Try.func107 (by kernel_rfl) rfl #[.int .i64 (Int.tmod a1 9), .int .i64 (Int.tmod a2 9)] rfl (by (try simp only [List.map_toArray, List.map_cons, List.map_nil]); first | done | rfl | (simp only [List.length_drop, List.length_take]; rfl)) ?_; (with_reducible refine (riverbankref05_away.calls (Int.tmod a1 9) (Int.tmod a2 9) t282 _ A7.out).mono ?_); rintro e w21 ⟨rfl, hb⟩; refine ⟨_, rfl, ?_⟩; have n0_ := Aside0.mk (below_step (by repeat (first | (with_reducible first | exact HB.out | apply below_alloc | apply pw_below_drewN | apply below_drew1) | exact HB.out)) hb); clear HB; have HB := n0_; clear n0_; (try clear hb); (try clear hb2); (try clear hk); (try clear hi)) | ((with_reducible refine gate_callee (f := 107) rfl ?_); refine goesL_ (some 23) rfl rfl Try.func107 (by kernel_rfl) rfl #[.int .i64 (wrap64 (Int.tdiv a1 9)), .int .i64 (wrap64 (Int.tdiv a2 9))] rfl (by (try simp only [List.map_toArray, List.map_cons, List.map_nil]); first | done | rfl | (simp only [List.length_drop, List.length_take]; rfl)) ?_; (with_reducible refine (riverbankref05_away.calls (wrap64 (Int.tdiv a1 9)) (wrap64 (Int.tdiv a2 9)) t283 _ A8.out).mono ?_); rintro e w22 ⟨rfl, hb⟩; refine ⟨_, rfl, ?_⟩; have n0_ := Aside0.mk (below_step (by repeat (first | (with_reducible first | exact HB.out | apply below_alloc | apply pw_below_drewN | apply below_drew1) | exact HB.out)) hb); clear HB; have HB := n0_; clear n0_; (try clear hb); (try clear hb2); (try clear hk); (try clear hi)) | ((with_reducible refine gate_callee (f := 33) rfl ?_); refine goesL_ (some 25) rfl rfl Try.func33 (by kernel_rfl) rfl #[.int .u8 (bt a0 a1)] rfl (by (try simp only [List.map_toArray, List.map_cons, List.map_nil]); first | done | rfl | (simp only [List.length_drop, List.length_take]; rfl)) ?_; (with_reducible refine (riverbankref02_Kind.calls k (bt a0 a1) t284 _ A9.out).mono ?_); rintro e w' ⟨rfl, ⟨nd, rfl⟩⟩; refine ⟨_, rfl, ?_⟩) | (go_at_call 67; (with_reducible refine (riverbankref03_May.calls k (bt a0 a1) a2 t286 _ A20.out).mono ?_); rintro e w' ⟨rfl, ⟨nd, rfl⟩⟩))
              go_ret
              exact ⟨by first | rfl | (simp [errW_none, errW_some] <;> rfl) | (simp [*, errW_none, errW_some] <;> rfl), by repeat (first | (with_reducible first | exact HB.out | apply below_alloc | apply pw_below_drewN | apply below_drew1) | exact HB.out)⟩
            · rw [if_neg c19] at H
              have c19b0 : (t283 == 1) = false := beq_eq_false_iff_ne.mpr c19
              have c19b1 : (t283 != 1) = true := bne_iff_ne.mpr c19
              obtain rfl := Option.some.inj H
              have p6 : 0 ≤ (a1 : Int) := of_decide_eq_true (by first | (with_reducible assumption) | assumption)
              have q6 : a1 < (a0.size : Int) := of_decide_eq_true (by first | (with_reducible assumption) | assumption)
              have hx6 := bt_at a0 a1
              replace p6 := eq_true p6
              replace q6 := eq_true q6
              go_enter Try.func79, Try.ntmps79
              go_wp2_with (first | ((with_reducible refine gate_callee (f := 107) rfl ?_); refine goesL_ (some 18) rfl rfl Try.func107 (by kernel_rfl) rfl #[.int .i64 (Int.tmod a1 9), .int .i64 (Int.tmod a2 9)] rfl (by (try simp only [List.map_toArray, List.map_cons, List.map_nil]); first | done | rfl | (simp only [List.length_drop, List.length_take]; rfl)) ?_; (with_reducible refine (riverbankref05_away.calls (Int.tmod a1 9) (Int.tmod a2 9) t282 _ A7.out).mono ?_); rintro e w23 ⟨rfl, hb⟩; refine ⟨_, rfl, ?_⟩; have n0_ := Aside0.mk (below_step (by repeat (first | (with_reducible first | exact HB.out | apply below_alloc | apply pw_below_drewN | apply below_drew1) | exact HB.out)) hb); clear HB; have HB := n0_; clear n0_; (try clear hb); (try clear hb2); (try clear hk); (try clear hi)) | ((with_reducible refine gate_callee (f := 107) rfl ?_); refine goesL_ (some 23) rfl rfl Try.func107 (by kernel_rfl) rfl #[.int .i64 (wrap64 (Int.tdiv a1 9)), .int .i64 (wrap64 (Int.tdiv a2 9))] rfl (by (try simp only [List.map_toArray, List.map_cons, List.map_nil]); first | done | rfl | (simp only [List.length_drop, List.length_take]; rfl)) ?_; (with_reducible refine (riverbankref05_away.calls (wrap64 (Int.tdiv a1 9)) (wrap64 (Int.tdiv a2 9)) t283 _ A8.out).mono ?_); rintro e w24 ⟨rfl, hb⟩; refine ⟨_, rfl, ?_⟩; have n0_ := Aside0.mk (below_step (by repeat (first | (with_reducible first | exact HB.out | apply below_alloc | apply pw_below_drewN | apply below_drew1) | exact HB.out)) hb); clear HB; have HB := n0_; clear n0_; (try clear hb); (try clear hb2); (try clear hk); (try clear hi)) | ((with_reducible refine gate_callee (f := 33) rfl ?_); refine goesL_ (some 25) rfl rfl Try.func33 (by kernel_rfl) rfl #[.int .u8 (bt a0 a1)] rfl (by (try simp only [List.map_toArray, List.map_cons, List.map_nil]); first | done | rfl | (simp only [List.length_drop, List.length_take]; rfl)) ?_; (with_reducible refine (riverbankref02_Kind.calls k (bt a0 a1) t284 _ A9.out).mono ?_); rintro e w' ⟨rfl, ⟨nd, rfl⟩⟩; refine ⟨_, rfl, ?_⟩))
              go_ret
              exact ⟨by first | rfl | (simp [errW_none, errW_some] <;> rfl) | (simp [*, errW_none, errW_some] <;> rfl), by repeat (first | (with_reducible first | exact HB.out | apply below_alloc | apply pw_below_drewN | apply below_drew1) | exact HB.out)⟩
          · rw [if_neg c18] at H
            have c18b0 : (t282 == 1) = false := beq_eq_false_iff_ne.mpr c18
            have c18b1 : (t282 != 1) = true := bne_iff_ne.mpr c18
            obtain rfl := Option.some.inj H
            have p6 : 0 ≤ (a1 : Int) := of_decide_eq_true (by first | (with_reducible assumption) | assumption)
            have q6 : a1 < (a0.size : Int) := of_decide_eq_true (by first | (with_reducible assumption) | assumption)
            have hx6 := bt_at a0 a1
            replace p6 := eq_true p6
            replace q6 := eq_true q6
            go_enter Try.func79, Try.ntmps79
            go_wp2_with (first | ((with_reducible refine gate_callee (f := 107) rfl ?_); refine goesL_ (some 18) rfl rfl Try.func107 (by kernel_rfl) rfl #[.int .i64 (Int.tmod a1 9), .int .i64 (Int.tmod a2 9)] rfl (by (try simp only [List.map_toArray, List.map_cons, List.map_nil]); first | done | rfl | (simp only [List.length_drop, List.length_take]; rfl)) ?_; (with_reducible refine (riverbankref05_away.calls (Int.tmod a1 9) (Int.tmod a2 9) t282 _ A7.out).mono ?_); rintro e w25 ⟨rfl, hb⟩; refine ⟨_, rfl, ?_⟩; have n0_ := Aside0.mk (below_step (by repeat (first | (with_reducible first | exact HB.out | apply below_alloc | apply pw_below_drewN | apply below_drew1) | exact HB.out)) hb); clear HB; have HB := n0_; clear n0_; (try clear hb); (try clear hb2); (try clear hk); (try clear hi)) | ((with_reducible refine gate_callee (f := 107) rfl ?_); refine goesL_ (some 23) rfl rfl Try.func107 (by kernel_rfl) rfl #[.int .i64 (wrap64 (Int.tdiv a1 9)), .int .i64 (wrap64 (Int.tdiv a2 9))] rfl (by (try simp only [List.map_toArray, List.map_cons, List.map_nil]); first | done | rfl | (simp only [List.length_drop, List.length_take]; rfl)) ?_; (with_reducible refine (riverbankref05_away.calls (wrap64 (Int.tdiv a1 9)) (wrap64 (Int.tdiv a2 9)) t283 _ A8.out).mono ?_); rintro e w26 ⟨rfl, hb⟩; refine ⟨_, rfl, ?_⟩; have n0_ := Aside0.mk (below_step (by repeat (first | (with_reducible first | exact HB.out | apply below_alloc | apply pw_below_drewN | apply below_drew1) | exact HB.out)) hb); clear HB; have HB := n0_; clear n0_; (try clear hb); (try clear hb2); (try clear hk); (try clear hi)) | ((with_reducible refine gate_callee (f := 33) rfl ?_); refine goesL_ (some 25) rfl rfl Try.func33 (by kernel_rfl) rfl #[.int .u8 (bt a0 a1)] rfl (by (try simp only [List.map_toArray, List.map_cons, List.map_nil]); first | done | rfl | (simp only [List.length_drop, List.length_take]; rfl)) ?_; (with_reducible refine (riverbankref02_Kind.calls k (bt a0 a1) t284 _ A9.out).mono ?_); rintro e w' ⟨rfl, ⟨nd, rfl⟩⟩; refine ⟨_, rfl, ?_⟩))
            go_ret
            exact ⟨by first | rfl | (simp [errW_none, errW_some] <;> rfl) | (simp [*, errW_none, errW_some] <;> rfl), by repeat (first | (with_reducible first | exact HB.out | apply below_alloc | apply pw_below_drewN | apply below_drew1) | exact HB.out)⟩
        · rw [if_neg c17] at H
          have c17b0 : (t284 == 65) = false := beq_eq_false_iff_ne.mpr c17
          have c17b1 : (t284 != 65) = true := bne_iff_ne.mpr c17
          by_cases c27 : t284 = 66
          · rw [if_pos c27] at H
            have c27b0 : (t284 == 66) = true := beq_iff_eq.mpr c27
            have c27b1 : (t284 != 66) = false := bne_eq_false_iff_eq.mpr c27
            clear c27
            by_cases c28 : t282 = 2
            · rw [if_pos c28] at H
              have c28b0 : (t282 == 2) = true := beq_iff_eq.mpr c28
              have c28b1 : (t282 != 2) = false := bne_eq_false_iff_eq.mpr c28
              clear c28
              by_cases c29 : t283 = 2
              · rw [if_pos c29] at H
                have c29b0 : (t283 == 2) = true := beq_iff_eq.mpr c29
                have c29b1 : (t283 != 2) = false := bne_eq_false_iff_eq.mpr c29
                clear c29
                replace H := Option.bind_eq_some_iff.mp H
                obtain ⟨t287, A300, H⟩ := H
                replace H : (if t287 = true then (if 0 ≤ (wrap64 (Int.tdiv (wrap64 (a1 + a2)) 2)) then (if (wrap64 (Int.tdiv (wrap64 (a1 + a2)) 2)) < (a0.size : Int) then (some ((bt a0 (wrap64 (Int.tdiv (wrap64 (a1 + a2)) 2))) == 46)) else (none)) else (none)) else (some false)) = some r := H
                have A30 := Aside0.mk A300
                clear A300
                by_cases c31 : t287 = true
                · subst c31
                  have H1 : (if 0 ≤ (wrap64 (Int.tdiv (wrap64 (a1 + a2)) 2)) then (if (wrap64 (Int.tdiv (wrap64 (a1 + a2)) 2)) < (a0.size : Int) then (some ((bt a0 (wrap64 (Int.tdiv (wrap64 (a1 + a2)) 2))) == 46)) else (none)) else (none)) = some r := by rw [if_pos rfl] at H; exact H
                  clear H
                  have H := H1
                  clear H1
                  obtain ⟨ji32, hji32⟩ : ∃ j_ : Int, (wrap64 (Int.tdiv (wrap64 (a1 + a2)) 2)) = j_ := ⟨_, rfl⟩
                  replace H : (if 0 ≤ (ji32) then (if (ji32) < (a0.size : Int) then (some ((bt a0 (ji32)) == 46)) else (none)) else (none)) = some r := by first | (rw [hji32] at H; exact H) | (simp only [hji32] at H ⊢; exact H)
                  (try rw [hji32] at A7)
                  (try rw [hji32] at A8)
                  (try rw [hji32] at A9)
                  (try rw [hji32] at A30)
                  have hji32w : (IntKind.i64.wrap (Int.tdiv (wrap64 (a1 + a2)) 2)) = ji32 := (i64_w _).trans hji32
                  by_cases c33 : 0 ≤ (ji32)
                  · rw [if_pos c33] at H
                    have c33b0 : decide (0 ≤ (ji32)) = true := decide_eq_true c33
                    clear c33
                    by_cases c34 : (ji32) < (a0.size : Int)
                    · rw [if_pos c34] at H
                      have c34b0 : decide ((ji32) < (a0.size : Int)) = true := decide_eq_true c34
                      clear c34
                      obtain rfl := Option.some.inj H
                      have p6 : 0 ≤ (a1 : Int) := of_decide_eq_true (by first | (with_reducible assumption) | assumption)
                      have q6 : a1 < (a0.size : Int) := of_decide_eq_true (by first | (with_reducible assumption) | assumption)
                      have hx6 := bt_at a0 a1
                      replace p6 := eq_true p6
                      replace q6 := eq_true q6
                      go_enter Try.func79, Try.ntmps79
                      go_wp2_with (first | ((with_reducible refine gate_callee (f := 107) rfl ?_); refine goesL_ (some 18) rfl rfl Try.func107 (by kernel_rfl) rfl #[.int .i64 (Int.tmod a1 9), .int .i64 (Int.tmod a2 9)] rfl (by (try simp only [List.map_toArray, List.map_cons, List.map_nil]); first | done | rfl | (simp only [List.length_drop, List.length_take]; rfl)) ?_; (with_reducible refine (riverbankref05_away.calls (Int.tmod a1 9) (Int.tmod a2 9) t282 _ A7.out).mono ?_); rintro e w36 ⟨rfl, hb⟩; refine ⟨_, rfl, ?_⟩; have n0_ := Aside0.mk (below_step (by repeat (first | (with_reducible first | exact HB.out | apply below_alloc | apply pw_below_drewN | apply below_drew1) | exact HB.out)) hb); clear HB; have HB := n0_; clear n0_; (try clear hb); (try clear hb2); (try clear hk); (try clear hi)) | ((with_reducible refine gate_callee (f := 107) rfl ?_); refine goesL_ (some 23) rfl rfl Try.func107 (by kernel_rfl) rfl #[.int .i64 (wrap64 (Int.tdiv a1 9)), .int .i64 (wrap64 (Int.tdiv a2 9))] rfl (by (try simp only [List.map_toArray, List.map_cons, List.map_nil]); first | done | rfl | (simp only [List.length_drop, List.length_take]; rfl)) ?_; (with_reducible refine (riverbankref05_away.calls (wrap64 (Int.tdiv a1 9)) (wrap64 (Int.tdiv a2 9)) t283 _ A8.out).mono ?_); rintro e w37 ⟨rfl, hb⟩; refine ⟨_, rfl, ?_⟩; have n0_ := Aside0.mk (below_step (by repeat (first | (with_reducible first | exact HB.out | apply below_alloc | apply pw_below_drewN | apply below_drew1) | exact HB.out)) hb); clear HB; have HB := n0_; clear n0_; (try clear hb); (try clear hb2); (try clear hk); (try clear hi)) | ((with_reducible refine gate_callee (f := 33) rfl ?_); refine goesL_ (some 25) rfl rfl Try.func33 (by kernel_rfl) rfl #[.int .u8 (bt a0 a1)] rfl (by (try simp only [List.map_toArray, List.map_cons, List.map_nil]); first | done | rfl | (simp only [List.length_drop, List.length_take]; rfl)) ?_; (with_reducible refine (riverbankref02_Kind.calls k (bt a0 a1) t284 _ A9.out).mono ?_); rintro e w' ⟨rfl, ⟨nd, rfl⟩⟩; refine ⟨_, rfl, ?_⟩) | (go_at_call 67; (with_reducible refine (riverbankref03_May.calls k (bt a0 a1) a2 true _ A30.out).mono ?_); rintro e w' ⟨rfl, ⟨nd, rfl⟩⟩; have p35 : 0 ≤ ((ji32) : Int) := of_decide_eq_true (by first | (with_reducible assumption) | assumption); have q35 : (ji32) < (a0.size : Int) := of_decide_eq_true (by first | (with_reducible assumption) | assumption); have hx35 := bt_at a0 (ji32); replace p35 := eq_true p35; replace q35 := eq_true q35))
                      go_ret
                      exact ⟨by first | rfl | (simp [errW_none, errW_some] <;> rfl) | (simp only [← hji32]; first | rfl | (simp [errW_none, errW_some] <;> rfl)) | (simp [*, errW_none, errW_some] <;> rfl), by repeat (first | (with_reducible first | exact HB.out | apply below_alloc | apply pw_below_drewN | apply below_drew1) | exact HB.out)⟩
                    · rw [if_neg c34] at H
                      exact absurd H (by simp)
                  · rw [if_neg c33] at H
                    exact absurd H (by simp)
                · replace c31 := Bool.eq_false_iff.mpr c31
                  subst c31
                  have H1 : (some false) = some r := by rw [if_neg (show ¬ (false = true) by decide)] at H; exact H
                  clear H
                  have H := H1
                  clear H1
                  obtain rfl := Option.some.inj H
                  have p6 : 0 ≤ (a1 : Int) := of_decide_eq_true (by first | (with_reducible assumption) | assumption)
                  have q6 : a1 < (a0.size : Int) := of_decide_eq_true (by first | (with_reducible assumption) | assumption)
                  have hx6 := bt_at a0 a1
                  replace p6 := eq_true p6
                  replace q6 := eq_true q6
                  go_enter Try.func79, Try.ntmps79
                  go_wp2_with (first | ((with_reducible refine gate_callee (f := 107) rfl ?_); refine goesL_ (some 18) rfl rfl Try.func107 (by kernel_rfl) rfl #[.int .i64 (Int.tmod a1 9), .int .i64 (Int.tmod a2 9)] rfl (by (try simp only [List.map_toArray, List.map_cons, List.map_nil]); first | done | rfl | (simp only [List.length_drop, List.length_take]; rfl)) ?_; (with_reducible refine (riverbankref05_away.calls (Int.tmod a1 9) (Int.tmod a2 9) t282 _ A7.out).mono ?_); rintro e w38 ⟨rfl, hb⟩; refine ⟨_, rfl, ?_⟩; have n0_ := Aside0.mk (below_step (by repeat (first | (with_reducible first | exact HB.out | apply below_alloc | apply pw_below_drewN | apply below_drew1) | exact HB.out)) hb); clear HB; have HB := n0_; clear n0_; (try clear hb); (try clear hb2); (try clear hk); (try clear hi)) | ((with_reducible refine gate_callee (f := 107) rfl ?_); refine goesL_ (some 23) rfl rfl Try.func107 (by kernel_rfl) rfl #[.int .i64 (wrap64 (Int.tdiv a1 9)), .int .i64 (wrap64 (Int.tdiv a2 9))] rfl (by (try simp only [List.map_toArray, List.map_cons, List.map_nil]); first | done | rfl | (simp only [List.length_drop, List.length_take]; rfl)) ?_; (with_reducible refine (riverbankref05_away.calls (wrap64 (Int.tdiv a1 9)) (wrap64 (Int.tdiv a2 9)) t283 _ A8.out).mono ?_); rintro e w39 ⟨rfl, hb⟩; refine ⟨_, rfl, ?_⟩; have n0_ := Aside0.mk (below_step (by repeat (first | (with_reducible first | exact HB.out | apply below_alloc | apply pw_below_drewN | apply below_drew1) | exact HB.out)) hb); clear HB; have HB := n0_; clear n0_; (try clear hb); (try clear hb2); (try clear hk); (try clear hi)) | ((with_reducible refine gate_callee (f := 33) rfl ?_); refine goesL_ (some 25) rfl rfl Try.func33 (by kernel_rfl) rfl #[.int .u8 (bt a0 a1)] rfl (by (try simp only [List.map_toArray, List.map_cons, List.map_nil]); first | done | rfl | (simp only [List.length_drop, List.length_take]; rfl)) ?_; (with_reducible refine (riverbankref02_Kind.calls k (bt a0 a1) t284 _ A9.out).mono ?_); rintro e w' ⟨rfl, ⟨nd, rfl⟩⟩; refine ⟨_, rfl, ?_⟩) | (go_at_call 67; (with_reducible refine (riverbankref03_May.calls k (bt a0 a1) a2 false _ A30.out).mono ?_); rintro e w' ⟨rfl, ⟨nd, rfl⟩⟩))
                  go_ret
                  exact ⟨by first | rfl | (simp [errW_none, errW_some] <;> rfl) | (simp [*, errW_none, errW_some] <;> rfl), by repeat (first | (with_reducible first | exact HB.out | apply below_alloc | apply pw_below_drewN | apply below_drew1) | exact HB.out)⟩
              · rw [if_neg c29] at H
                have c29b0 : (t283 == 2) = false := beq_eq_false_iff_ne.mpr c29
                have c29b1 : (t283 != 2) = true := bne_iff_ne.mpr c29
                obtain rfl := Option.some.inj H
                have p6 : 0 ≤ (a1 : Int) := of_decide_eq_true (by first | (with_reducible assumption) | assumption)
                have q6 : a1 < (a0.size : Int) := of_decide_eq_true (by first | (with_reducible assumption) | assumption)
                have hx6 := bt_at a0 a1
                replace p6 := eq_true p6
                replace q6 := eq_true q6
                go_enter Try.func79, Try.ntmps79
                go_wp2_with (first | ((with_reducible refine gate_callee (f := 107) rfl ?_); refine goesL_ (some 18) rfl rfl Try.func107 (by kernel_rfl) rfl #[.int .i64 (Int.tmod a1 9), .int .i64 (Int.tmod a2 9)] rfl (by (try simp only [List.map_toArray, List.map_cons, List.map_nil]); first | done | rfl | (simp only [List.length_drop, List.length_take]; rfl)) ?_; (with_reducible refine (riverbankref05_away.calls (Int.tmod a1 9) (Int.tmod a2 9) t282 _ A7.out).mono ?_); rintro e w40 ⟨rfl, hb⟩; refine ⟨_, rfl, ?_⟩; have n0_ := Aside0.mk (below_step (by repeat (first | (with_reducible first | exact HB.out | apply below_alloc | apply pw_below_drewN | apply below_drew1) | exact HB.out)) hb); clear HB; have HB := n0_; clear n0_; (try clear hb); (try clear hb2); (try clear hk); (try clear hi)) | ((with_reducible refine gate_callee (f := 107) rfl ?_); refine goesL_ (some 23) rfl rfl Try.func107 (by kernel_rfl) rfl #[.int .i64 (wrap64 (Int.tdiv a1 9)), .int .i64 (wrap64 (Int.tdiv a2 9))] rfl (by (try simp only [List.map_toArray, List.map_cons, List.map_nil]); first | done | rfl | (simp only [List.length_drop, List.length_take]; rfl)) ?_; (with_reducible refine (riverbankref05_away.calls (wrap64 (Int.tdiv a1 9)) (wrap64 (Int.tdiv a2 9)) t283 _ A8.out).mono ?_); rintro e w41 ⟨rfl, hb⟩; refine ⟨_, rfl, ?_⟩; have n0_ := Aside0.mk (below_step (by repeat (first | (with_reducible first | exact HB.out | apply below_alloc | apply pw_below_drewN | apply below_drew1) | exact HB.out)) hb); clear HB; have HB := n0_; clear n0_; (try clear hb); (try clear hb2); (try clear hk); (try clear hi)) | ((with_reducible refine gate_callee (f := 33) rfl ?_); refine goesL_ (some 25) rfl rfl Try.func33 (by kernel_rfl) rfl #[.int .u8 (bt a0 a1)] rfl (by (try simp only [List.map_toArray, List.map_cons, List.map_nil]); first | done | rfl | (simp only [List.length_drop, List.length_take]; rfl)) ?_; (with_reducible refine (riverbankref02_Kind.calls k (bt a0 a1) t284 _ A9.out).mono ?_); rintro e w' ⟨rfl, ⟨nd, rfl⟩⟩; refine ⟨_, rfl, ?_⟩))
                go_ret
                exact ⟨by first | rfl | (simp [errW_none, errW_some] <;> rfl) | (simp [*, errW_none, errW_some] <;> rfl), by repeat (first | (with_reducible first | exact HB.out | apply below_alloc | apply pw_below_drewN | apply below_drew1) | exact HB.out)⟩
            · rw [if_neg c28] at H
              have c28b0 : (t282 == 2) = false := beq_eq_false_iff_ne.mpr c28
              have c28b1 : (t282 != 2) = true := bne_iff_ne.mpr c28
              obtain rfl := Option.some.inj H
              have p6 : 0 ≤ (a1 : Int) := of_decide_eq_true (by first | (with_reducible assumption) | assumption)
              have q6 : a1 < (a0.size : Int) := of_decide_eq_true (by first | (with_reducible assumption) | assumption)
              have hx6 := bt_at a0 a1
              replace p6 := eq_true p6
              replace q6 := eq_true q6
              go_enter Try.func79, Try.ntmps79
              go_wp2_with (first | ((with_reducible refine gate_callee (f := 107) rfl ?_); refine goesL_ (some 18) rfl rfl Try.func107 (by kernel_rfl) rfl #[.int .i64 (Int.tmod a1 9), .int .i64 (Int.tmod a2 9)] rfl (by (try simp only [List.map_toArray, List.map_cons, List.map_nil]); first | done | rfl | (simp only [List.length_drop, List.length_take]; rfl)) ?_; (with_reducible refine (riverbankref05_away.calls (Int.tmod a1 9) (Int.tmod a2 9) t282 _ A7.out).mono ?_); rintro e w42 ⟨rfl, hb⟩; refine ⟨_, rfl, ?_⟩; have n0_ := Aside0.mk (below_step (by repeat (first | (with_reducible first | exact HB.out | apply below_alloc | apply pw_below_drewN | apply below_drew1) | exact HB.out)) hb); clear HB; have HB := n0_; clear n0_; (try clear hb); (try clear hb2); (try clear hk); (try clear hi)) | ((with_reducible refine gate_callee (f := 107) rfl ?_); refine goesL_ (some 23) rfl rfl Try.func107 (by kernel_rfl) rfl #[.int .i64 (wrap64 (Int.tdiv a1 9)), .int .i64 (wrap64 (Int.tdiv a2 9))] rfl (by (try simp only [List.map_toArray, List.map_cons, List.map_nil]); first | done | rfl | (simp only [List.length_drop, List.length_take]; rfl)) ?_; (with_reducible refine (riverbankref05_away.calls (wrap64 (Int.tdiv a1 9)) (wrap64 (Int.tdiv a2 9)) t283 _ A8.out).mono ?_); rintro e w43 ⟨rfl, hb⟩; refine ⟨_, rfl, ?_⟩; have n0_ := Aside0.mk (below_step (by repeat (first | (with_reducible first | exact HB.out | apply below_alloc | apply pw_below_drewN | apply below_drew1) | exact HB.out)) hb); clear HB; have HB := n0_; clear n0_; (try clear hb); (try clear hb2); (try clear hk); (try clear hi)) | ((with_reducible refine gate_callee (f := 33) rfl ?_); refine goesL_ (some 25) rfl rfl Try.func33 (by kernel_rfl) rfl #[.int .u8 (bt a0 a1)] rfl (by (try simp only [List.map_toArray, List.map_cons, List.map_nil]); first | done | rfl | (simp only [List.length_drop, List.length_take]; rfl)) ?_; (with_reducible refine (riverbankref02_Kind.calls k (bt a0 a1) t284 _ A9.out).mono ?_); rintro e w' ⟨rfl, ⟨nd, rfl⟩⟩; refine ⟨_, rfl, ?_⟩))
              go_ret
              exact ⟨by first | rfl | (simp [errW_none, errW_some] <;> rfl) | (simp [*, errW_none, errW_some] <;> rfl), by repeat (first | (with_reducible first | exact HB.out | apply below_alloc | apply pw_below_drewN | apply below_drew1) | exact HB.out)⟩
          · rw [if_neg c27] at H
            have c27b0 : (t284 == 66) = false := beq_eq_false_iff_ne.mpr c27
            have c27b1 : (t284 != 66) = true := bne_iff_ne.mpr c27
            by_cases c44 : t284 = 78
            · rw [if_pos c44] at H
              have c44b0 : (t284 == 78) = true := beq_iff_eq.mpr c44
              have c44b1 : (t284 != 78) = false := bne_eq_false_iff_eq.mpr c44
              clear c44
              replace H := Option.bind_eq_some_iff.mp H
              obtain ⟨t288, A450, H⟩ := H
              replace H : (some t288) = some r := H
              have A45 := Aside0.mk A450
              clear A450
              obtain rfl := Option.some.inj H
              have p6 : 0 ≤ (a1 : Int) := of_decide_eq_true (by first | (with_reducible assumption) | assumption)
              have q6 : a1 < (a0.size : Int) := of_decide_eq_true (by first | (with_reducible assumption) | assumption)
              have hx6 := bt_at a0 a1
              replace p6 := eq_true p6
              replace q6 := eq_true q6
              go_enter Try.func79, Try.ntmps79
              go_wp2_with (first | ((with_reducible refine gate_callee (f := 107) rfl ?_); refine goesL_ (some 18) rfl rfl Try.func107 (by kernel_rfl) rfl #[.int .i64 (Int.tmod a1 9), .int .i64 (Int.tmod a2 9)] rfl (by (try simp only [List.map_toArray, List.map_cons, List.map_nil]); first | done | rfl | (simp only [List.length_drop, List.length_take]; rfl)) ?_; (with_reducible refine (riverbankref05_away.calls (Int.tmod a1 9) (Int.tmod a2 9) t282 _ A7.out).mono ?_); rintro e w46 ⟨rfl, hb⟩; refine ⟨_, rfl, ?_⟩; have n0_ := Aside0.mk (below_step (by repeat (first | (with_reducible first | exact HB.out | apply below_alloc | apply pw_below_drewN | apply below_drew1) | exact HB.out)) hb); clear HB; have HB := n0_; clear n0_; (try clear hb); (try clear hb2); (try clear hk); (try clear hi)) | ((with_reducible refine gate_callee (f := 107) rfl ?_); refine goesL_ (some 23) rfl rfl Try.func107 (by kernel_rfl) rfl #[.int .i64 (wrap64 (Int.tdiv a1 9)), .int .i64 (wrap64 (Int.tdiv a2 9))] rfl (by (try simp only [List.map_toArray, List.map_cons, List.map_nil]); first | done | rfl | (simp only [List.length_drop, List.length_take]; rfl)) ?_; (with_reducible refine (riverbankref05_away.calls (wrap64 (Int.tdiv a1 9)) (wrap64 (Int.tdiv a2 9)) t283 _ A8.out).mono ?_); rintro e w47 ⟨rfl, hb⟩; refine ⟨_, rfl, ?_⟩; have n0_ := Aside0.mk (below_step (by repeat (first | (with_reducible first | exact HB.out | apply below_alloc | apply pw_below_drewN | apply below_drew1) | exact HB.out)) hb); clear HB; have HB := n0_; clear n0_; (try clear hb); (try clear hb2); (try clear hk); (try clear hi)) | ((with_reducible refine gate_callee (f := 33) rfl ?_); refine goesL_ (some 25) rfl rfl Try.func33 (by kernel_rfl) rfl #[.int .u8 (bt a0 a1)] rfl (by (try simp only [List.map_toArray, List.map_cons, List.map_nil]); first | done | rfl | (simp only [List.length_drop, List.length_take]; rfl)) ?_; (with_reducible refine (riverbankref02_Kind.calls k (bt a0 a1) t284 _ A9.out).mono ?_); rintro e w' ⟨rfl, ⟨nd, rfl⟩⟩; refine ⟨_, rfl, ?_⟩) | ((with_reducible refine gate_callee (f := 108) rfl ?_); refine goesL_ (some 77) rfl rfl Try.func108 (by kernel_rfl) rfl #[.string a0, .int .i64 a1, .int .i64 a2] rfl (by (try simp only [List.map_toArray, List.map_cons, List.map_nil]); first | done | rfl | (simp only [List.length_drop, List.length_take]; rfl)) ?_; (with_reducible refine (riverbankref05_horse.calls k a0 a1 a2 t288 _ A45.out).mono ?_); rintro e w48 ⟨rfl, hb⟩; refine ⟨_, rfl, ?_⟩; have n0_ := Aside0.mk (below_step (by repeat (first | (with_reducible first | exact HB.out | apply below_alloc | apply pw_below_drewN | apply below_drew1) | exact HB.out)) hb); clear HB; have HB := n0_; clear n0_; (try clear hb); (try clear hb2); (try clear hk); (try clear hi)))
              go_ret
              exact ⟨by first | rfl | (simp [errW_none, errW_some] <;> rfl) | (simp [*, errW_none, errW_some] <;> rfl), by repeat (first | (with_reducible first | exact HB.out | apply below_alloc | apply pw_below_drewN | apply below_drew1) | exact HB.out)⟩
            · rw [if_neg c44] at H
              have c44b0 : (t284 == 78) = false := beq_eq_false_iff_ne.mpr c44
              have c44b1 : (t284 != 78) = true := bne_iff_ne.mpr c44
              by_cases c49 : t284 = 82
              · rw [if_pos c49] at H
                have c49b0 : (t284 == 82) = true := beq_iff_eq.mpr c49
                have c49b1 : (t284 != 82) = false := bne_eq_false_iff_eq.mpr c49
                clear c49
                replace H := Option.bind_eq_some_iff.mp H
                obtain ⟨t289, A500, H⟩ := H
                replace H : (some (t289 == 0)) = some r := H
                have A50 := Aside0.mk A500
                clear A500
                obtain rfl := Option.some.inj H
                have p6 : 0 ≤ (a1 : Int) := of_decide_eq_true (by first | (with_reducible assumption) | assumption)
                have q6 : a1 < (a0.size : Int) := of_decide_eq_true (by first | (with_reducible assumption) | assumption)
                have hx6 := bt_at a0 a1
                replace p6 := eq_true p6
                replace q6 := eq_true q6
                go_enter Try.func79, Try.ntmps79
                go_wp2_with (first | ((with_reducible refine gate_callee (f := 107) rfl ?_); refine goesL_ (some 18) rfl rfl Try.func107 (by kernel_rfl) rfl #[.int .i64 (Int.tmod a1 9), .int .i64 (Int.tmod a2 9)] rfl (by (try simp only [List.map_toArray, List.map_cons, List.map_nil]); first | done | rfl | (simp only [List.length_drop, List.length_take]; rfl)) ?_; (with_reducible refine (riverbankref05_away.calls (Int.tmod a1 9) (Int.tmod a2 9) t282 _ A7.out).mono ?_); rintro e w51 ⟨rfl, hb⟩; refine ⟨_, rfl, ?_⟩; have n0_ := Aside0.mk (below_step (by repeat (first | (with_reducible first | exact HB.out | apply below_alloc | apply pw_below_drewN | apply below_drew1) | exact HB.out)) hb); clear HB; have HB := n0_; clear n0_; (try clear hb); (try clear hb2); (try clear hk); (try clear hi)) | ((with_reducible refine gate_callee (f := 107) rfl ?_); refine goesL_ (some 23) rfl rfl Try.func107 (by kernel_rfl) rfl #[.int .i64 (wrap64 (Int.tdiv a1 9)), .int .i64 (wrap64 (Int.tdiv a2 9))] rfl (by (try simp only [List.map_toArray, List.map_cons, List.map_nil]); first | done | rfl | (simp only [List.length_drop, List.length_take]; rfl)) ?_; (with_reducible refine (riverbankref05_away.calls (wrap64 (Int.tdiv a1 9)) (wrap64 (Int.tdiv a2 9)) t283 _ A8.out).mono ?_); rintro e w52 ⟨rfl, hb⟩; refine ⟨_, rfl, ?_⟩; have n0_ := Aside0.mk (below_step (by repeat (first | (with_reducible first | exact HB.out | apply below_alloc | apply pw_below_drewN | apply below_drew1) | exact HB.out)) hb); clear HB; have HB := n0_; clear n0_; (try clear hb); (try clear hb2); (try clear hk); (try clear hi)) | ((with_reducible refine gate_callee (f := 33) rfl ?_); refine goesL_ (some 25) rfl rfl Try.func33 (by kernel_rfl) rfl #[.int .u8 (bt a0 a1)] rfl (by (try simp only [List.map_toArray, List.map_cons, List.map_nil]); first | done | rfl | (simp only [List.length_drop, List.length_take]; rfl)) ?_; (with_reducible refine (riverbankref02_Kind.calls k (bt a0 a1) t284 _ A9.out).mono ?_); rintro e w' ⟨rfl, ⟨nd, rfl⟩⟩; refine ⟨_, rfl, ?_⟩) | ((with_reducible refine gate_callee (f := 52) rfl ?_); refine goesL_ (some 83) rfl rfl Try.func52 (by kernel_rfl) rfl #[.string a0, .int .i64 a1, .int .i64 a2] rfl (by (try simp only [List.map_toArray, List.map_cons, List.map_nil]); first | done | rfl | (simp only [List.length_drop, List.length_take]; rfl)) ?_; (with_reducible refine (riverbankref05_between.calls k a0 a1 a2 t289 _ A50.out).mono ?_); rintro e w53 ⟨rfl, hb⟩; refine ⟨_, rfl, ?_⟩; have n0_ := Aside0.mk (below_step (by repeat (first | (with_reducible first | exact HB.out | apply below_alloc | apply pw_below_drewN | apply below_drew1) | exact HB.out)) hb); clear HB; have HB := n0_; clear n0_; (try clear hb); (try clear hb2); (try clear hk); (try clear hi)))
                go_ret
                exact ⟨by first | rfl | (simp [errW_none, errW_some] <;> rfl) | (simp [*, errW_none, errW_some] <;> rfl), by repeat (first | (with_reducible first | exact HB.out | apply below_alloc | apply pw_below_drewN | apply below_drew1) | exact HB.out)⟩
              · rw [if_neg c49] at H
                have c49b0 : (t284 == 82) = false := beq_eq_false_iff_ne.mpr c49
                have c49b1 : (t284 != 82) = true := bne_iff_ne.mpr c49
                by_cases c54 : t284 = 67
                · rw [if_pos c54] at H
                  have c54b0 : (t284 == 67) = true := beq_iff_eq.mpr c54
                  have c54b1 : (t284 != 67) = false := bne_eq_false_iff_eq.mpr c54
                  clear c54
                  replace H := Option.bind_eq_some_iff.mp H
                  obtain ⟨t290, A550, H⟩ := H
                  replace H : (if t290 = 0 then (if 0 ≤ a2 then (if a2 < (a0.size : Int) then (if (bt a0 a2) = 46 then (some true) else (if t290 = 1 then (some ((bt a0 a2) != 46)) else (some false))) else (none)) else (none)) else (if t290 = 1 then (if 0 ≤ a2 then (if a2 < (a0.size : Int) then (some ((bt a0 a2) != 46)) else (none)) else (none)) else (some false))) = some r := H
                  have A55 := Aside0.mk A550
                  clear A550
                  by_cases c56 : t290 = 0
                  · rw [if_pos c56] at H
                    have c56b0 : (t290 == 0) = true := beq_iff_eq.mpr c56
                    have c56b1 : (t290 != 0) = false := bne_eq_false_iff_eq.mpr c56
                    clear c56
                    by_cases c57 : 0 ≤ a2
                    · rw [if_pos c57] at H
                      have c57b0 : decide (0 ≤ a2) = true := decide_eq_true c57
                      clear c57
                      by_cases c58 : a2 < (a0.size : Int)
                      · rw [if_pos c58] at H
                        have c58b0 : decide (a2 < (a0.size : Int)) = true := decide_eq_true c58
                        clear c58
                        by_cases c60 : (bt a0 a2) = 46
                        · rw [if_pos c60] at H
                          have c60b0 : ((bt a0 a2) == 46) = true := beq_iff_eq.mpr c60
                          have c60b1 : ((bt a0 a2) != 46) = false := bne_eq_false_iff_eq.mpr c60
                          clear c60
                          obtain rfl := Option.some.inj H
                          have p6 : 0 ≤ (a1 : Int) := of_decide_eq_true (by first | (with_reducible assumption) | assumption)
                          have q6 : a1 < (a0.size : Int) := of_decide_eq_true (by first | (with_reducible assumption) | assumption)
                          have hx6 := bt_at a0 a1
                          replace p6 := eq_true p6
                          replace q6 := eq_true q6
                          go_enter Try.func79, Try.ntmps79
                          go_wp2_with (first | ((with_reducible refine gate_callee (f := 107) rfl ?_); refine goesL_ (some 18) rfl rfl Try.func107 (by kernel_rfl) rfl #[.int .i64 (Int.tmod a1 9), .int .i64 (Int.tmod a2 9)] rfl (by (try simp only [List.map_toArray, List.map_cons, List.map_nil]); first | done | rfl | (simp only [List.length_drop, List.length_take]; rfl)) ?_; (with_reducible refine (riverbankref05_away.calls (Int.tmod a1 9) (Int.tmod a2 9) t282 _ A7.out).mono ?_); rintro e w61 ⟨rfl, hb⟩; refine ⟨_, rfl, ?_⟩; have n0_ := Aside0.mk (below_step (by repeat (first | (with_reducible first | exact HB.out | apply below_alloc | apply pw_below_drewN | apply below_drew1) | exact HB.out)) hb); clear HB; have HB := n0_; clear n0_; (try clear hb); (try clear hb2); (try clear hk); (try clear hi)) | ((with_reducible refine gate_callee (f := 107) rfl ?_); refine goesL_ (some 23) rfl rfl Try.func107 (by kernel_rfl) rfl #[.int .i64 (wrap64 (Int.tdiv a1 9)), .int .i64 (wrap64 (Int.tdiv a2 9))] rfl (by (try simp only [List.map_toArray, List.map_cons, List.map_nil]); first | done | rfl | (simp only [List.length_drop, List.length_take]; rfl)) ?_; (with_reducible refine (riverbankref05_away.calls (wrap64 (Int.tdiv a1 9)) (wrap64 (Int.tdiv a2 9)) t283 _ A8.out).mono ?_); rintro e w62 ⟨rfl, hb⟩; refine ⟨_, rfl, ?_⟩; have n0_ := Aside0.mk (below_step (by repeat (first | (with_reducible first | exact HB.out | apply below_alloc | apply pw_below_drewN | apply below_drew1) | exact HB.out)) hb); clear HB; have HB := n0_; clear n0_; (try clear hb); (try clear hb2); (try clear hk); (try clear hi)) | ((with_reducible refine gate_callee (f := 33) rfl ?_); refine goesL_ (some 25) rfl rfl Try.func33 (by kernel_rfl) rfl #[.int .u8 (bt a0 a1)] rfl (by (try simp only [List.map_toArray, List.map_cons, List.map_nil]); first | done | rfl | (simp only [List.length_drop, List.length_take]; rfl)) ?_; (with_reducible refine (riverbankref02_Kind.calls k (bt a0 a1) t284 _ A9.out).mono ?_); rintro e w' ⟨rfl, ⟨nd, rfl⟩⟩; refine ⟨_, rfl, ?_⟩) | ((with_reducible refine gate_callee (f := 52) rfl ?_); refine goesL_ (some 90) rfl rfl Try.func52 (by kernel_rfl) rfl #[.string a0, .int .i64 a1, .int .i64 a2] rfl (by (try simp only [List.map_toArray, List.map_cons, List.map_nil]); first | done | rfl | (simp only [List.length_drop, List.length_take]; rfl)) ?_; (with_reducible refine (riverbankref05_between.calls k a0 a1 a2 t290 _ A55.out).mono ?_); rintro e w63 ⟨rfl, hb⟩; refine ⟨_, rfl, ?_⟩; have n0_ := Aside0.mk (below_step (by repeat (first | (with_reducible first | exact HB.out | apply below_alloc | apply pw_below_drewN | apply below_drew1) | exact HB.out)) hb); clear HB; have HB := n0_; clear n0_; (try clear hb); (try clear hb2); (try clear hk); (try clear hi); have p59 : 0 ≤ (a2 : Int) := of_decide_eq_true (by first | (with_reducible assumption) | assumption); have q59 : a2 < (a0.size : Int) := of_decide_eq_true (by first | (with_reducible assumption) | assumption); have hx59 := bt_at a0 a2; replace p59 := eq_true p59; replace q59 := eq_true q59))
                          go_ret
                          exact ⟨by first | rfl | (simp [errW_none, errW_some] <;> rfl) | (simp [*, errW_none, errW_some] <;> rfl), by repeat (first | (with_reducible first | exact HB.out | apply below_alloc | apply pw_below_drewN | apply below_drew1) | exact HB.out)⟩
                        · rw [if_neg c60] at H
                          have c60b0 : ((bt a0 a2) == 46) = false := beq_eq_false_iff_ne.mpr c60
                          have c60b1 : ((bt a0 a2) != 46) = true := bne_iff_ne.mpr c60
                          by_cases c64 : t290 = 1
                          · rw [if_pos c64] at H
                            have c64b0 : (t290 == 1) = true := beq_iff_eq.mpr c64
                            have c64b1 : (t290 != 1) = false := bne_eq_false_iff_eq.mpr c64
                            clear c64
                            obtain rfl := Option.some.inj H
                            have p6 : 0 ≤ (a1 : Int) := of_decide_eq_true (by first | (with_reducible assumption) | assumption)
                            have q6 : a1 < (a0.size : Int) := of_decide_eq_true (by first | (with_reducible assumption) | assumption)
                            have hx6 := bt_at a0 a1
                            replace p6 := eq_true p6
                            replace q6 := eq_true q6
                            go_enter Try.func79, Try.ntmps79
                            go_wp2_with (first | ((with_reducible refine gate_callee (f := 107) rfl ?_); refine goesL_ (some 18) rfl rfl Try.func107 (by kernel_rfl) rfl #[.int .i64 (Int.tmod a1 9), .int .i64 (Int.tmod a2 9)] rfl (by (try simp only [List.map_toArray, List.map_cons, List.map_nil]); first | done | rfl | (simp only [List.length_drop, List.length_take]; rfl)) ?_; (with_reducible refine (riverbankref05_away.calls (Int.tmod a1 9) (Int.tmod a2 9) t282 _ A7.out).mono ?_); rintro e w66 ⟨rfl, hb⟩; refine ⟨_, rfl, ?_⟩; have n0_ := Aside0.mk (below_step (by repeat (first | (with_reducible first | exact HB.out | apply below_alloc | apply pw_below_drewN | apply below_drew1) | exact HB.out)) hb); clear HB; have HB := n0_; clear n0_; (try clear hb); (try clear hb2); (try clear hk); (try clear hi)) | ((with_reducible refine gate_callee (f := 107) rfl ?_); refine goesL_ (some 23) rfl rfl Try.func107 (by kernel_rfl) rfl #[.int .i64 (wrap64 (Int.tdiv a1 9)), .int .i64 (wrap64 (Int.tdiv a2 9))] rfl (by (try simp only [List.map_toArray, List.map_cons, List.map_nil]); first | done | rfl | (simp only [List.length_drop, List.length_take]; rfl)) ?_; (with_reducible refine (riverbankref05_away.calls (wrap64 (Int.tdiv a1 9)) (wrap64 (Int.tdiv a2 9)) t283 _ A8.out).mono ?_); rintro e w67 ⟨rfl, hb⟩; refine ⟨_, rfl, ?_⟩; have n0_ := Aside0.mk (below_step (by repeat (first | (with_reducible first | exact HB.out | apply below_alloc | apply pw_below_drewN | apply below_drew1) | exact HB.out)) hb); clear HB; have HB := n0_; clear n0_; (try clear hb); (try clear hb2); (try clear hk); (try clear hi)) | ((with_reducible refine gate_callee (f := 33) rfl ?_); refine goesL_ (some 25) rfl rfl Try.func33 (by kernel_rfl) rfl #[.int .u8 (bt a0 a1)] rfl (by (try simp only [List.map_toArray, List.map_cons, List.map_nil]); first | done | rfl | (simp only [List.length_drop, List.length_take]; rfl)) ?_; (with_reducible refine (riverbankref02_Kind.calls k (bt a0 a1) t284 _ A9.out).mono ?_); rintro e w' ⟨rfl, ⟨nd, rfl⟩⟩; refine ⟨_, rfl, ?_⟩) | ((with_reducible refine gate_callee (f := 52) rfl ?_); refine goesL_ (some 90) rfl rfl Try.func52 (by kernel_rfl) rfl #[.string a0, .int .i64 a1, .int .i64 a2] rfl (by (try simp only [List.map_toArray, List.map_cons, List.map_nil]); first | done | rfl | (simp only [List.length_drop, List.length_take]; rfl)) ?_; (with_reducible refine (riverbankref05_between.calls k a0 a1 a2 t290 _ A55.out).mono ?_); rintro e w68 ⟨rfl, hb⟩; refine ⟨_, rfl, ?_⟩; have n0_ := Aside0.mk (below_step (by repeat (first | (with_reducible first | exact HB.out | apply below_alloc | apply pw_below_drewN | apply below_drew1) | exact HB.out)) hb); clear HB; have HB := n0_; clear n0_; (try clear hb); (try clear hb2); (try clear hk); (try clear hi); have p59 : 0 ≤ (a2 : Int) := of_decide_eq_true (by first | (with_reducible assumption) | assumption); have q59 : a2 < (a0.size : Int) := of_decide_eq_true (by first | (with_reducible assumption) | assumption); have hx59 := bt_at a0 a2; replace p59 := eq_true p59; replace q59 := eq_true q59; have p65 : 0 ≤ (a2 : Int) := of_decide_eq_true (by first | (with_reducible assumption) | assumption); have q65 : a2 < (a0.size : Int) := of_decide_eq_true (by first | (with_reducible assumption) | assumption); have hx65 := bt_at a0 a2; replace p65 := eq_true p65; replace q65 := eq_true q65))
                            go_ret
                            exact ⟨by first | rfl | (simp [errW_none, errW_some] <;> rfl) | (simp [*, errW_none, errW_some] <;> rfl), by repeat (first | (with_reducible first | exact HB.out | apply below_alloc | apply pw_below_drewN | apply below_drew1) | exact HB.out)⟩
                          · rw [if_neg c64] at H
                            have c64b0 : (t290 == 1) = false := beq_eq_false_iff_ne.mpr c64
                            have c64b1 : (t290 != 1) = true := bne_iff_ne.mpr c64
                            obtain rfl := Option.some.inj H
                            have p6 : 0 ≤ (a1 : Int) := of_decide_eq_true (by first | (with_reducible assumption) | assumption)
                            have q6 : a1 < (a0.size : Int) := of_decide_eq_true (by first | (with_reducible assumption) | assumption)
                            have hx6 := bt_at a0 a1
                            replace p6 := eq_true p6
                            replace q6 := eq_true q6
                            go_enter Try.func79, Try.ntmps79
                            go_wp2_with (first | ((with_reducible refine gate_callee (f := 107) rfl ?_); refine goesL_ (some 18) rfl rfl Try.func107 (by kernel_rfl) rfl #[.int .i64 (Int.tmod a1 9), .int .i64 (Int.tmod a2 9)] rfl (by (try simp only [List.map_toArray, List.map_cons, List.map_nil]); first | done | rfl | (simp only [List.length_drop, List.length_take]; rfl)) ?_; (with_reducible refine (riverbankref05_away.calls (Int.tmod a1 9) (Int.tmod a2 9) t282 _ A7.out).mono ?_); rintro e w69 ⟨rfl, hb⟩; refine ⟨_, rfl, ?_⟩; have n0_ := Aside0.mk (below_step (by repeat (first | (with_reducible first | exact HB.out | apply below_alloc | apply pw_below_drewN | apply below_drew1) | exact HB.out)) hb); clear HB; have HB := n0_; clear n0_; (try clear hb); (try clear hb2); (try clear hk); (try clear hi)) | ((with_reducible refine gate_callee (f := 107) rfl ?_); refine goesL_ (some 23) rfl rfl Try.func107 (by kernel_rfl) rfl #[.int .i64 (wrap64 (Int.tdiv a1 9)), .int .i64 (wrap64 (Int.tdiv a2 9))] rfl (by (try simp only [List.map_toArray, List.map_cons, List.map_nil]); first | done | rfl | (simp only [List.length_drop, List.length_take]; rfl)) ?_; (with_reducible refine (riverbankref05_away.calls (wrap64 (Int.tdiv a1 9)) (wrap64 (Int.tdiv a2 9)) t283 _ A8.out).mono ?_); rintro e w70 ⟨rfl, hb⟩; refine ⟨_, rfl, ?_⟩; have n0_ := Aside0.mk (below_step (by repeat (first | (with_reducible first | exact HB.out | apply below_alloc | apply pw_below_drewN | apply below_drew1) | exact HB.out)) hb); clear HB; have HB := n0_; clear n0_; (try clear hb); (try clear hb2); (try clear hk); (try clear hi)) | ((with_reducible refine gate_callee (f := 33) rfl ?_); refine goesL_ (some 25) rfl rfl Try.func33 (by kernel_rfl) rfl #[.int .u8 (bt a0 a1)] rfl (by (try simp only [List.map_toArray, List.map_cons, List.map_nil]); first | done | rfl | (simp only [List.length_drop, List.length_take]; rfl)) ?_; (with_reducible refine (riverbankref02_Kind.calls k (bt a0 a1) t284 _ A9.out).mono ?_); rintro e w' ⟨rfl, ⟨nd, rfl⟩⟩; refine ⟨_, rfl, ?_⟩) | ((with_reducible refine gate_callee (f := 52) rfl ?_); refine goesL_ (some 90) rfl rfl Try.func52 (by kernel_rfl) rfl #[.string a0, .int .i64 a1, .int .i64 a2] rfl (by (try simp only [List.map_toArray, List.map_cons, List.map_nil]); first | done | rfl | (simp only [List.length_drop, List.length_take]; rfl)) ?_; (with_reducible refine (riverbankref05_between.calls k a0 a1 a2 t290 _ A55.out).mono ?_); rintro e w71 ⟨rfl, hb⟩; refine ⟨_, rfl, ?_⟩; have n0_ := Aside0.mk (below_step (by repeat (first | (with_reducible first | exact HB.out | apply below_alloc | apply pw_below_drewN | apply below_drew1) | exact HB.out)) hb); clear HB; have HB := n0_; clear n0_; (try clear hb); (try clear hb2); (try clear hk); (try clear hi); have p59 : 0 ≤ (a2 : Int) := of_decide_eq_true (by first | (with_reducible assumption) | assumption); have q59 : a2 < (a0.size : Int) := of_decide_eq_true (by first | (with_reducible assumption) | assumption); have hx59 := bt_at a0 a2; replace p59 := eq_true p59; replace q59 := eq_true q59))
                            go_ret
                            exact ⟨by first | rfl | (simp [errW_none, errW_some] <;> rfl) | (simp [*, errW_none, errW_some] <;> rfl), by repeat (first | (with_reducible first | exact HB.out | apply below_alloc | apply pw_below_drewN | apply below_drew1) | exact HB.out)⟩
                      · rw [if_neg c58] at H
                        exact absurd H (by simp)
                    · rw [if_neg c57] at H
                      exact absurd H (by simp)
                  · rw [if_neg c56] at H
                    have c56b0 : (t290 == 0) = false := beq_eq_false_iff_ne.mpr c56
                    have c56b1 : (t290 != 0) = true := bne_iff_ne.mpr c56
                    by_cases c72 : t290 = 1
                    · rw [if_pos c72] at H
                      have c72b0 : (t290 == 1) = true := beq_iff_eq.mpr c72
                      have c72b1 : (t290 != 1) = false := bne_eq_false_iff_eq.mpr c72
                      clear c72
                      by_cases c73 : 0 ≤ a2
                      · rw [if_pos c73] at H
                        have c73b0 : decide (0 ≤ a2) = true := decide_eq_true c73
                        clear c73
                        by_cases c74 : a2 < (a0.size : Int)
                        · rw [if_pos c74] at H
                          have c74b0 : decide (a2 < (a0.size : Int)) = true := decide_eq_true c74
                          clear c74
                          obtain rfl := Option.some.inj H
                          have p6 : 0 ≤ (a1 : Int) := of_decide_eq_true (by first | (with_reducible assumption) | assumption)
                          have q6 : a1 < (a0.size : Int) := of_decide_eq_true (by first | (with_reducible assumption) | assumption)
                          have hx6 := bt_at a0 a1
                          replace p6 := eq_true p6
                          replace q6 := eq_true q6
                          go_enter Try.func79, Try.ntmps79
                          go_wp2_with (first | ((with_reducible refine gate_callee (f := 107) rfl ?_); refine goesL_ (some 18) rfl rfl Try.func107 (by kernel_rfl) rfl #[.int .i64 (Int.tmod a1 9), .int .i64 (Int.tmod a2 9)] rfl (by (try simp only [List.map_toArray, List.map_cons, List.map_nil]); first | done | rfl | (simp only [List.length_drop, List.length_take]; rfl)) ?_; (with_reducible refine (riverbankref05_away.calls (Int.tmod a1 9) (Int.tmod a2 9) t282 _ A7.out).mono ?_); rintro e w76 ⟨rfl, hb⟩; refine ⟨_, rfl, ?_⟩; have n0_ := Aside0.mk (below_step (by repeat (first | (with_reducible first | exact HB.out | apply below_alloc | apply pw_below_drewN | apply below_drew1) | exact HB.out)) hb); clear HB; have HB := n0_; clear n0_; (try clear hb); (try clear hb2); (try clear hk); (try clear hi)) | ((with_reducible refine gate_callee (f := 107) rfl ?_); refine goesL_ (some 23) rfl rfl Try.func107 (by kernel_rfl) rfl #[.int .i64 (wrap64 (Int.tdiv a1 9)), .int .i64 (wrap64 (Int.tdiv a2 9))] rfl (by (try simp only [List.map_toArray, List.map_cons, List.map_nil]); first | done | rfl | (simp only [List.length_drop, List.length_take]; rfl)) ?_; (with_reducible refine (riverbankref05_away.calls (wrap64 (Int.tdiv a1 9)) (wrap64 (Int.tdiv a2 9)) t283 _ A8.out).mono ?_); rintro e w77 ⟨rfl, hb⟩; refine ⟨_, rfl, ?_⟩; have n0_ := Aside0.mk (below_step (by repeat (first | (with_reducible first | exact HB.out | apply below_alloc | apply pw_below_drewN | apply below_drew1) | exact HB.out)) hb); clear HB; have HB := n0_; clear n0_; (try clear hb); (try clear hb2); (try clear hk); (try clear hi)) | ((with_reducible refine gate_callee (f := 33) rfl ?_); refine goesL_ (some 25) rfl rfl Try.func33 (by kernel_rfl) rfl #[.int .u8 (bt a0 a1)] rfl (by (try simp only [List.map_toArray, List.map_cons, List.map_nil]); first | done | rfl | (simp only [List.length_drop, List.length_take]; rfl)) ?_; (with_reducible refine (riverbankref02_Kind.calls k (bt a0 a1) t284 _ A9.out).mono ?_); rintro e w' ⟨rfl, ⟨nd, rfl⟩⟩; refine ⟨_, rfl, ?_⟩) | ((with_reducible refine gate_callee (f := 52) rfl ?_); refine goesL_ (some 90) rfl rfl Try.func52 (by kernel_rfl) rfl #[.string a0, .int .i64 a1, .int .i64 a2] rfl (by (try simp only [List.map_toArray, List.map_cons, List.map_nil]); first | done | rfl | (simp only [List.length_drop, List.length_take]; rfl)) ?_; (with_reducible refine (riverbankref05_between.calls k a0 a1 a2 t290 _ A55.out).mono ?_); rintro e w78 ⟨rfl, hb⟩; refine ⟨_, rfl, ?_⟩; have n0_ := Aside0.mk (below_step (by repeat (first | (with_reducible first | exact HB.out | apply below_alloc | apply pw_below_drewN | apply below_drew1) | exact HB.out)) hb); clear HB; have HB := n0_; clear n0_; (try clear hb); (try clear hb2); (try clear hk); (try clear hi); have p75 : 0 ≤ (a2 : Int) := of_decide_eq_true (by first | (with_reducible assumption) | assumption); have q75 : a2 < (a0.size : Int) := of_decide_eq_true (by first | (with_reducible assumption) | assumption); have hx75 := bt_at a0 a2; replace p75 := eq_true p75; replace q75 := eq_true q75))
                          go_ret
                          exact ⟨by first | rfl | (simp [errW_none, errW_some] <;> rfl) | (simp [*, errW_none, errW_some] <;> rfl), by repeat (first | (with_reducible first | exact HB.out | apply below_alloc | apply pw_below_drewN | apply below_drew1) | exact HB.out)⟩
                        · rw [if_neg c74] at H
                          exact absurd H (by simp)
                      · rw [if_neg c73] at H
                        exact absurd H (by simp)
                    · rw [if_neg c72] at H
                      have c72b0 : (t290 == 1) = false := beq_eq_false_iff_ne.mpr c72
                      have c72b1 : (t290 != 1) = true := bne_iff_ne.mpr c72
                      obtain rfl := Option.some.inj H
                      have p6 : 0 ≤ (a1 : Int) := of_decide_eq_true (by first | (with_reducible assumption) | assumption)
                      have q6 : a1 < (a0.size : Int) := of_decide_eq_true (by first | (with_reducible assumption) | assumption)
                      have hx6 := bt_at a0 a1
                      replace p6 := eq_true p6
                      replace q6 := eq_true q6
                      go_enter Try.func79, Try.ntmps79
                      go_wp2_with (first | ((with_reducible refine gate_callee (f := 107) rfl ?_); refine goesL_ (some 18) rfl rfl Try.func107 (by kernel_rfl) rfl #[.int .i64 (Int.tmod a1 9), .int .i64 (Int.tmod a2 9)] rfl (by (try simp only [List.map_toArray, List.map_cons, List.map_nil]); first | done | rfl | (simp only [List.length_drop, List.length_take]; rfl)) ?_; (with_reducible refine (riverbankref05_away.calls (Int.tmod a1 9) (Int.tmod a2 9) t282 _ A7.out).mono ?_); rintro e w79 ⟨rfl, hb⟩; refine ⟨_, rfl, ?_⟩; have n0_ := Aside0.mk (below_step (by repeat (first | (with_reducible first | exact HB.out | apply below_alloc | apply pw_below_drewN | apply below_drew1) | exact HB.out)) hb); clear HB; have HB := n0_; clear n0_; (try clear hb); (try clear hb2); (try clear hk); (try clear hi)) | ((with_reducible refine gate_callee (f := 107) rfl ?_); refine goesL_ (some 23) rfl rfl Try.func107 (by kernel_rfl) rfl #[.int .i64 (wrap64 (Int.tdiv a1 9)), .int .i64 (wrap64 (Int.tdiv a2 9))] rfl (by (try simp only [List.map_toArray, List.map_cons, List.map_nil]); first | done | rfl | (simp only [List.length_drop, List.length_take]; rfl)) ?_; (with_reducible refine (riverbankref05_away.calls (wrap64 (Int.tdiv a1 9)) (wrap64 (Int.tdiv a2 9)) t283 _ A8.out).mono ?_); rintro e w80 ⟨rfl, hb⟩; refine ⟨_, rfl, ?_⟩; have n0_ := Aside0.mk (below_step (by repeat (first | (with_reducible first | exact HB.out | apply below_alloc | apply pw_below_drewN | apply below_drew1) | exact HB.out)) hb); clear HB; have HB := n0_; clear n0_; (try clear hb); (try clear hb2); (try clear hk); (try clear hi)) | ((with_reducible refine gate_callee (f := 33) rfl ?_); refine goesL_ (some 25) rfl rfl Try.func33 (by kernel_rfl) rfl #[.int .u8 (bt a0 a1)] rfl (by (try simp only [List.map_toArray, List.map_cons, List.map_nil]); first | done | rfl | (simp only [List.length_drop, List.length_take]; rfl)) ?_; (with_reducible refine (riverbankref02_Kind.calls k (bt a0 a1) t284 _ A9.out).mono ?_); rintro e w' ⟨rfl, ⟨nd, rfl⟩⟩; refine ⟨_, rfl, ?_⟩) | ((with_reducible refine gate_callee (f := 52) rfl ?_); refine goesL_ (some 90) rfl rfl Try.func52 (by kernel_rfl) rfl #[.string a0, .int .i64 a1, .int .i64 a2] rfl (by (try simp only [List.map_toArray, List.map_cons, List.map_nil]); first | done | rfl | (simp only [List.length_drop, List.length_take]; rfl)) ?_; (with_reducible refine (riverbankref05_between.calls k a0 a1 a2 t290 _ A55.out).mono ?_); rintro e w81 ⟨rfl, hb⟩; refine ⟨_, rfl, ?_⟩; have n0_ := Aside0.mk (below_step (by repeat (first | (with_reducible first | exact HB.out | apply below_alloc | apply pw_below_drewN | apply below_drew1) | exact HB.out)) hb); clear HB; have HB := n0_; clear n0_; (try clear hb); (try clear hb2); (try clear hk); (try clear hi)))
                      go_ret
                      exact ⟨by first | rfl | (simp [errW_none, errW_some] <;> rfl) | (simp [*, errW_none, errW_some] <;> rfl), by repeat (first | (with_reducible first | exact HB.out | apply below_alloc | apply pw_below_drewN | apply below_drew1) | exact HB.out)⟩
                · rw [if_neg c54] at H
                  have c54b0 : (t284 == 67) = false := beq_eq_false_iff_ne.mpr c54
                  have c54b1 : (t284 != 67) = true := bne_iff_ne.mpr c54
                  replace H := Option.bind_eq_some_iff.mp H
                  obtain ⟨t291, A820, H⟩ := H
                  replace H : ((riverbankref05_pawn.f k t291 a1 a2).bind fun t292 => (some t292)) = some r := H
                  have A82 := Aside0.mk A820
                  clear A820
                  replace H := Option.bind_eq_some_iff.mp H
                  obtain ⟨t292, A830, H⟩ := H
                  replace H : (some t292) = some r := H
                  have A83 := Aside0.mk A830
                  clear A830
                  obtain rfl := Option.some.inj H
                  have p6 : 0 ≤ (a1 : Int) := of_decide_eq_true (by first | (with_reducible assumption) | assumption)
                  have q6 : a1 < (a0.size : Int) := of_decide_eq_true (by first | (with_reducible assumption) | assumption)
                  have hx6 := bt_at a0 a1
                  replace p6 := eq_true p6
                  replace q6 := eq_true q6
                  go_enter Try.func79, Try.ntmps79
                  go_wp2_with (first | ((with_reducible refine gate_callee (f := 107) rfl ?_); refine goesL_ (some 18) rfl rfl Try.func107 (by kernel_rfl) rfl #[.int .i64 (Int.tmod a1 9), .int .i64 (Int.tmod a2 9)] rfl (by (try simp only [List.map_toArray, List.map_cons, List.map_nil]); first | done | rfl | (simp only [List.length_drop, List.length_take]; rfl)) ?_; (with_reducible refine (riverbankref05_away.calls (Int.tmod a1 9) (Int.tmod a2 9) t282 _ A7.out).mono ?_); rintro e w84 ⟨rfl, hb⟩; refine ⟨_, rfl, ?_⟩; have n0_ := Aside0.mk (below_step (by repeat (first | (with_reducible first | exact HB.out | apply below_alloc | apply pw_below_drewN | apply below_drew1) | exact HB.out)) hb); clear HB; have HB := n0_; clear n0_; (try clear hb); (try clear hb2); (try clear hk); (try clear hi)) | ((with_reducible refine gate_callee (f := 107) rfl ?_); refine goesL_ (some 23) rfl rfl Try.func107 (by kernel_rfl) rfl #[.int .i64 (wrap64 (Int.tdiv a1 9)), .int .i64 (wrap64 (Int.tdiv a2 9))] rfl (by (try simp only [List.map_toArray, List.map_cons, List.map_nil]); first | done | rfl | (simp only [List.length_drop, List.length_take]; rfl)) ?_; (with_reducible refine (riverbankref05_away.calls (wrap64 (Int.tdiv a1 9)) (wrap64 (Int.tdiv a2 9)) t283 _ A8.out).mono ?_); rintro e w85 ⟨rfl, hb⟩; refine ⟨_, rfl, ?_⟩; have n0_ := Aside0.mk (below_step (by repeat (first | (with_reducible first | exact HB.out | apply below_alloc | apply pw_below_drewN | apply below_drew1) | exact HB.out)) hb); clear HB; have HB := n0_; clear n0_; (try clear hb); (try clear hb2); (try clear hk); (try clear hi)) | ((with_reducible refine gate_callee (f := 33) rfl ?_); refine goesL_ (some 25) rfl rfl Try.func33 (by kernel_rfl) rfl #[.int .u8 (bt a0 a1)] rfl (by (try simp only [List.map_toArray, List.map_cons, List.map_nil]); first | done | rfl | (simp only [List.length_drop, List.length_take]; rfl)) ?_; (with_reducible refine (riverbankref02_Kind.calls k (bt a0 a1) t284 _ A9.out).mono ?_); rintro e w' ⟨rfl, ⟨nd, rfl⟩⟩; refine ⟨_, rfl, ?_⟩) | ((with_reducible refine gate_callee (f := 38) rfl ?_); refine goesL_ (some 110) rfl rfl Try.func38 (by kernel_rfl) rfl #[.int .u8 (bt a0 a1)] rfl (by (try simp only [List.map_toArray, List.map_cons, List.map_nil]); first | done | rfl | (simp only [List.length_drop, List.length_take]; rfl)) ?_; (with_reducible refine (riverbankref02_Side.calls k (bt a0 a1) t291 _ A82.out).mono ?_); rintro e w' ⟨rfl, ⟨nd, rfl⟩⟩; refine ⟨_, rfl, ?_⟩) | ((with_reducible refine gate_callee (f := 109) rfl ?_); refine goesL_ (some 113) rfl rfl Try.func109 (by kernel_rfl) rfl #[.int .i64 t291, .int .i64 a1, .int .i64 a2] rfl (by (try simp only [List.map_toArray, List.map_cons, List.map_nil]); first | done | rfl | (simp only [List.length_drop, List.length_take]; rfl)) ?_; (with_reducible refine (riverbankref05_pawn.calls k t291 a1 a2 t292 _ A83.out).mono ?_); rintro e w86 ⟨rfl, hb⟩; refine ⟨_, rfl, ?_⟩; have n0_ := Aside0.mk (below_step (by repeat (first | (with_reducible first | exact HB.out | apply below_alloc | apply pw_below_drewN | apply below_drew1) | exact HB.out)) hb); clear HB; have HB := n0_; clear n0_; (try clear hb); (try clear hb2); (try clear hk); (try clear hi)))
                  go_ret
                  exact ⟨by first | rfl | (simp [errW_none, errW_some] <;> rfl) | (simp [*, errW_none, errW_some] <;> rfl), by repeat (first | (with_reducible first | exact HB.out | apply below_alloc | apply pw_below_drewN | apply below_drew1) | exact HB.out)⟩
    · rw [if_neg c5] at H
      exact absurd H (by simp)
  · rw [if_neg c4] at H
    exact absurd H (by simp)

/-! ### riverbankref05_Fast: function 49 -/
def riverbankref05_Fast.f (k : Nat) (a0 : ByteArray) (a1 : Int) (a2 : Int) : Option (Bool) := if 0 ≤ a1 then (if a1 < (a0.size : Int) then ((riverbankref02_Side.f k (bt a0 a1)).bind fun t293 => (if t293 < 0 then (some false) else (if 0 ≤ a2 then (if a2 < (a0.size : Int) then ((riverbankref02_Side.f k (bt a0 a2)).bind fun t294 => (if t294 = t293 then (some false) else ((riverbankref05_can.f k a0 a1 a2).bind fun t295 => (some t295)))) else (none)) else (none)))) else (none)) else (none)
theorem riverbankref05_Fast.mono : ∀ a0 a1 a2 k, LeO (riverbankref05_Fast.f k a0 a1 a2) (riverbankref05_Fast.f (k + 1) a0 a1 a2) := by
  intro a0 a1 a2 k
  unfold riverbankref05_Fast.f
  repeat' first
      | (with_reducible exact riverbankref02_Side.mono _ _)
      | (with_reducible exact riverbankref05_can.mono _ _ _ _)
      | (with_reducible exact LeO.refl _)
      | (with_reducible exact LeO.none _)
      | (with_reducible refine LeO.ite ?_ ?_)
      | (with_reducible refine LeO.bind ?_ (fun _ => ?_))
      | exact riverbankref02_Side.mono _ _
      | exact riverbankref05_can.mono _ _ _ _
      | exact LeO.none _
      | refine LeO.ite ?_ ?_
      | refine LeO.bind ?_ (fun _ => ?_)
set_option maxHeartbeats 8000000 in
set_option maxRecDepth 100000 in
theorem riverbankref05_Fast.calls (k : Nat) (a0 : ByteArray) (a1 : Int) (a2 : Int) (r : Bool) (w : World) (h : riverbankref05_Fast.f k a0 a1 a2 = some r) :
    Calls Try.prog 49 #[.string a0, .int .i64 a1, .int .i64 a2] w fun e w' => e = .returned (.bool r) ∧ Below w.heap.size w w' := by
  have HB := Aside0.mk (Below.refl w.heap.size w)
  have H : (if 0 ≤ a1 then (if a1 < (a0.size : Int) then ((riverbankref02_Side.f k (bt a0 a1)).bind fun t293 => (if t293 < 0 then (some false) else (if 0 ≤ a2 then (if a2 < (a0.size : Int) then ((riverbankref02_Side.f k (bt a0 a2)).bind fun t294 => (if t294 = t293 then (some false) else ((riverbankref05_can.f k a0 a1 a2).bind fun t295 => (some t295)))) else (none)) else (none)))) else (none)) else (none)) = some r := h
  clear h
  by_cases c4 : 0 ≤ a1
  · rw [if_pos c4] at H
    have c4b0 : decide (0 ≤ a1) = true := decide_eq_true c4
    clear c4
    by_cases c5 : a1 < (a0.size : Int)
    · rw [if_pos c5] at H
      have c5b0 : decide (a1 < (a0.size : Int)) = true := decide_eq_true c5
      clear c5
      replace H := Option.bind_eq_some_iff.mp H
      obtain ⟨t293, A70, H⟩ := H
      replace H : (if t293 < 0 then (some false) else (if 0 ≤ a2 then (if a2 < (a0.size : Int) then ((riverbankref02_Side.f k (bt a0 a2)).bind fun t294 => (if t294 = t293 then (some false) else ((riverbankref05_can.f k a0 a1 a2).bind fun t295 => (some t295)))) else (none)) else (none))) = some r := H
      have A7 := Aside0.mk A70
      clear A70
      by_cases c8 : t293 < 0
      · rw [if_pos c8] at H
        have c8b0 : decide (t293 < 0) = true := decide_eq_true c8
        clear c8
        obtain rfl := Option.some.inj H
        have p6 : 0 ≤ (a1 : Int) := of_decide_eq_true (by first | (with_reducible assumption) | assumption)
        have q6 : a1 < (a0.size : Int) := of_decide_eq_true (by first | (with_reducible assumption) | assumption)
        have hx6 := bt_at a0 a1
        replace p6 := eq_true p6
        replace q6 := eq_true q6
        go_enter Try.func49, Try.ntmps49
        go_wp2_with (first | ((with_reducible refine gate_callee (f := 38) rfl ?_); refine goesL_ (some 11) rfl rfl Try.func38 (by kernel_rfl) rfl #[.int .u8 (bt a0 a1)] rfl (by (try simp only [List.map_toArray, List.map_cons, List.map_nil]); first | done | rfl | (simp only [List.length_drop, List.length_take]; rfl)) ?_; (with_reducible refine (riverbankref02_Side.calls k (bt a0 a1) t293 _ A7.out).mono ?_); rintro e w' ⟨rfl, ⟨nd, rfl⟩⟩; refine ⟨_, rfl, ?_⟩))
        go_ret
        exact ⟨by first | rfl | (simp [errW_none, errW_some] <;> rfl) | (simp [*, errW_none, errW_some] <;> rfl), by repeat (first | (with_reducible first | exact HB.out | apply below_alloc | apply pw_below_drewN | apply below_drew1) | exact HB.out)⟩
      · rw [if_neg c8] at H
        have c8b0 : decide (t293 < 0) = false := decide_eq_false c8
        clear c8
        by_cases c9 : 0 ≤ a2
        · rw [if_pos c9] at H
          have c9b0 : decide (0 ≤ a2) = true := decide_eq_true c9
          clear c9
          by_cases c10 : a2 < (a0.size : Int)
          · rw [if_pos c10] at H
            have c10b0 : decide (a2 < (a0.size : Int)) = true := decide_eq_true c10
            clear c10
            replace H := Option.bind_eq_some_iff.mp H
            obtain ⟨t294, A120, H⟩ := H
            replace H : (if t294 = t293 then (some false) else ((riverbankref05_can.f k a0 a1 a2).bind fun t295 => (some t295))) = some r := H
            have A12 := Aside0.mk A120
            clear A120
            by_cases c13 : t294 = t293
            · rw [if_pos c13] at H
              have c13b0 : (t294 == t293) = true := beq_iff_eq.mpr c13
              have c13b1 : (t294 != t293) = false := bne_eq_false_iff_eq.mpr c13
              clear c13
              obtain rfl := Option.some.inj H
              have p6 : 0 ≤ (a1 : Int) := of_decide_eq_true (by first | (with_reducible assumption) | assumption)
              have q6 : a1 < (a0.size : Int) := of_decide_eq_true (by first | (with_reducible assumption) | assumption)
              have hx6 := bt_at a0 a1
              replace p6 := eq_true p6
              replace q6 := eq_true q6
              go_enter Try.func49, Try.ntmps49
              go_wp2_with (first | ((with_reducible refine gate_callee (f := 38) rfl ?_); refine goesL_ (some 11) rfl rfl Try.func38 (by kernel_rfl) rfl #[.int .u8 (bt a0 a1)] rfl (by (try simp only [List.map_toArray, List.map_cons, List.map_nil]); first | done | rfl | (simp only [List.length_drop, List.length_take]; rfl)) ?_; (with_reducible refine (riverbankref02_Side.calls k (bt a0 a1) t293 _ A7.out).mono ?_); rintro e w' ⟨rfl, ⟨nd, rfl⟩⟩; refine ⟨_, rfl, ?_⟩; have p11 : 0 ≤ (a2 : Int) := of_decide_eq_true (by first | (with_reducible assumption) | assumption); have q11 : a2 < (a0.size : Int) := of_decide_eq_true (by first | (with_reducible assumption) | assumption); have hx11 := bt_at a0 a2; replace p11 := eq_true p11; replace q11 := eq_true q11) | (go_at_call 38; (with_reducible refine (riverbankref02_Side.calls k (bt a0 a2) t294 _ A12.out).mono ?_); rintro e w' ⟨rfl, ⟨nd, rfl⟩⟩))
              go_ret
              exact ⟨by first | rfl | (simp [errW_none, errW_some] <;> rfl) | (simp [*, errW_none, errW_some] <;> rfl), by repeat (first | (with_reducible first | exact HB.out | apply below_alloc | apply pw_below_drewN | apply below_drew1) | exact HB.out)⟩
            · rw [if_neg c13] at H
              have c13b0 : (t294 == t293) = false := beq_eq_false_iff_ne.mpr c13
              have c13b1 : (t294 != t293) = true := bne_iff_ne.mpr c13
              replace H := Option.bind_eq_some_iff.mp H
              obtain ⟨t295, A140, H⟩ := H
              replace H : (some t295) = some r := H
              have A14 := Aside0.mk A140
              clear A140
              obtain rfl := Option.some.inj H
              have p6 : 0 ≤ (a1 : Int) := of_decide_eq_true (by first | (with_reducible assumption) | assumption)
              have q6 : a1 < (a0.size : Int) := of_decide_eq_true (by first | (with_reducible assumption) | assumption)
              have hx6 := bt_at a0 a1
              replace p6 := eq_true p6
              replace q6 := eq_true q6
              go_enter Try.func49, Try.ntmps49
              go_wp2_with (first | ((with_reducible refine gate_callee (f := 38) rfl ?_); refine goesL_ (some 11) rfl rfl Try.func38 (by kernel_rfl) rfl #[.int .u8 (bt a0 a1)] rfl (by (try simp only [List.map_toArray, List.map_cons, List.map_nil]); first | done | rfl | (simp only [List.length_drop, List.length_take]; rfl)) ?_; (with_reducible refine (riverbankref02_Side.calls k (bt a0 a1) t293 _ A7.out).mono ?_); rintro e w' ⟨rfl, ⟨nd, rfl⟩⟩; refine ⟨_, rfl, ?_⟩; have p11 : 0 ≤ (a2 : Int) := of_decide_eq_true (by first | (with_reducible assumption) | assumption); have q11 : a2 < (a0.size : Int) := of_decide_eq_true (by first | (with_reducible assumption) | assumption); have hx11 := bt_at a0 a2; replace p11 := eq_true p11; replace q11 := eq_true q11) | (go_at_call 38; (with_reducible refine (riverbankref02_Side.calls k (bt a0 a2) t294 _ A12.out).mono ?_); rintro e w' ⟨rfl, ⟨nd, rfl⟩⟩) | ((with_reducible refine gate_callee (f := 79) rfl ?_); refine goesL_ (some 25) rfl rfl Try.func79 (by kernel_rfl) rfl #[.string a0, .int .i64 a1, .int .i64 a2] rfl (by (try simp only [List.map_toArray, List.map_cons, List.map_nil]); first | done | rfl | (simp only [List.length_drop, List.length_take]; rfl)) ?_; (with_reducible refine (riverbankref05_can.calls k a0 a1 a2 t295 _ A14.out).mono ?_); rintro e w15 ⟨rfl, hb⟩; refine ⟨_, rfl, ?_⟩; have n0_ := Aside0.mk (below_step (by repeat (first | (with_reducible first | exact HB.out | apply below_alloc | apply pw_below_drewN | apply below_drew1) | exact HB.out)) hb); clear HB; have HB := n0_; clear n0_; (try clear hb); (try clear hb2); (try clear hk); (try clear hi)))
              go_ret
              exact ⟨by first | rfl | (simp [errW_none, errW_some] <;> rfl) | (simp [*, errW_none, errW_some] <;> rfl), by repeat (first | (with_reducible first | exact HB.out | apply below_alloc | apply pw_below_drewN | apply below_drew1) | exact HB.out)⟩
          · rw [if_neg c10] at H
            exact absurd H (by simp)
        · rw [if_neg c9] at H
          exact absurd H (by simp)
    · rw [if_neg c5] at H
      exact absurd H (by simp)
  · rw [if_neg c4] at H
    exact absurd H (by simp)

end Go.Proofs.Ytcanbidenhcohaa.P

/- Walks of Go functions, one Lean function and one contract for each, written by a program of this session out of the translation. -/
namespace Go.Proofs.Ytcanbidenhcohaa.P
open Go.RowKit Go.Proofs.YtcanbidenhcohaaW.PrintWords Go.Proofs.YtcanbidenhcohaaW.PrintLast Go.Proofs.YtcanbidenhcohaaW.PrintMore
attribute [local go_sem] max2_int min2_int max_two min_two max_three min_three max_four min_four   -- for this text's walks alone
set_option linter.unusedVariables false
set_option linter.unusedSimpArgs false

/-! ### riverbankref05_All: function 16 -/
mutual
def riverbankref05_All.j0 : Nat → ByteArray → Int → List Int → Bool → Option (List Int)
  | 0, _, _, _, _ => none
  | k + 1, x0, x1, x5, x14 => if x14 = true then (some ([] : List Int)) else (riverbankref05_All.l0 k x0 x1 x5 0)
def riverbankref05_All.l0 : Nat → ByteArray → Int → List Int → Int → Option (List Int)
  | 0, _, _, _, _ => none
  | k + 1, x0, x1, x5, x6 => if x6 < 90 then ((riverbankref05_Fast.f k x0 x1 x6).bind fun t298 => (if t298 = true then (if x5.length < 17592186044416 then (riverbankref05_All.l0 k x0 x1 (x5 ++ [x6]) (wrap64 (x6 + 1))) else (none)) else (riverbankref05_All.l0 k x0 x1 x5 (wrap64 (x6 + 1))))) else (some x5)
end
def riverbankref05_All.f (k : Nat) (a0 : ByteArray) (a1 : Int) : Option (List Int) := (riverbankref02_Is.f k a0).bind fun t296 => (if t296 = true then ((riverbankref05_real.f a1).bind fun t297 => (riverbankref05_All.j0 k a0 a1 ([] : List Int) (!t297))) else (riverbankref05_All.j0 k a0 a1 ([] : List Int) true))
theorem riverbankref05_All.mono_l : ∀ k, (∀ y0 y1 y2 y3, LeO (riverbankref05_All.j0 k y0 y1 y2 y3) (riverbankref05_All.j0 (k + 1) y0 y1 y2 y3)) ∧ (∀ y0 y1 y2 y3, LeO (riverbankref05_All.l0 k y0 y1 y2 y3) (riverbankref05_All.l0 (k + 1) y0 y1 y2 y3))
  | 0 => ⟨fun _ _ _ _ r h => by simp [riverbankref05_All.j0] at h, fun _ _ _ _ r h => by simp [riverbankref05_All.l0] at h⟩
  | k + 1 => by
    obtain ⟨ih0, ih1⟩ := riverbankref05_All.mono_l k
    refine ⟨?_, ?_⟩
    · intro y0 y1 y2 y3
      unfold riverbankref05_All.j0
      repeat' first
      | (with_reducible exact ih0 _ _ _ _)
      | (with_reducible exact ih1 _ _ _ _)
      | (with_reducible exact riverbankref02_Is.mono _ _)
      | (with_reducible exact riverbankref05_Fast.mono _ _ _ _)
      | (with_reducible exact LeO.refl _)
      | (with_reducible exact LeO.none _)
      | (with_reducible refine LeO.ite ?_ ?_)
      | (with_reducible refine LeO.bind ?_ (fun _ => ?_))
      | exact ih0 _ _ _ _
      | exact ih1 _ _ _ _
      | exact riverbankref02_Is.mono _ _
      | exact riverbankref05_Fast.mono _ _ _ _
      | exact LeO.none _
      | refine LeO.ite ?_ ?_
      | refine LeO.bind ?_ (fun _ => ?_)
    · intro y0 y1 y2 y3
      unfold riverbankref05_All.l0
      repeat' first
      | (with_reducible exact ih0 _ _ _ _)
      | (with_reducible exact ih1 _ _ _ _)
      | (with_reducible exact riverbankref02_Is.mono _ _)
      | (with_reducible exact riverbankref05_Fast.mono _ _ _ _)
      | (with_reducible exact LeO.refl _)
      | (with_reducible exact LeO.none _)
      | (with_reducible refine LeO.ite ?_ ?_)
      | (with_reducible refine LeO.bind ?_ (fun _ => ?_))
      | exact ih0 _ _ _ _
      | exact ih1 _ _ _ _
      | exact riverbankref02_Is.mono _ _
      | exact riverbankref05_Fast.mono _ _ _ _
      | exact LeO.none _
      | refine LeO.ite ?_ ?_
      | refine LeO.bind ?_ (fun _ => ?_)
theorem riverbankref05_All.mono : ∀ a0 a1 k, LeO (riverbankref05_All.f k a0 a1) (riverbankref05_All.f (k + 1) a0 a1) := by
  intro a0 a1 k
  obtain ⟨ih0, ih1⟩ := riverbankref05_All.mono_l k
  unfold riverbankref05_All.f
  repeat' first
      | (with_reducible exact ih0 _ _ _ _)
      | (with_reducible exact ih1 _ _ _ _)
      | (with_reducible exact riverbankref02_Is.mono _ _)
      | (with_reducible exact riverbankref05_Fast.mono _ _ _ _)
      | (with_reducible exact LeO.refl _)
      | (with_reducible exact LeO.none _)
      | (with_reducible refine LeO.ite ?_ ?_)
      | (with_reducible refine LeO.bind ?_ (fun _ => ?_))
      | exact ih0 _ _ _ _
      | exact ih1 _ _ _ _
      | exact riverbankref02_Is.mono _ _
      | exact riverbankref05_Fast.mono _ _ _ _
      | exact LeO.none _
      | refine LeO.ite ?_ ?_
      | refine LeO.bind ?_ (fun _ => ?_)
set_option maxHeartbeats 8000000 in
set_option maxRecDepth 100000 in
theorem riverbankref05_All.calls (k : Nat) (a0 : ByteArray) (a1 : Int) (r : List Int) (w : World) (h : riverbankref05_All.f k a0 a1 = some r) :
    Calls Try.prog 16 #[.string a0, .int .i64 a1] w fun e w' => ∃ v0_ : Value, e = .returned (v0_) ∧ Kd.R (Kd.int .i64) 3 w' w.heap.size (fun _ => True) v0_ r ∧ Below w.heap.size w w' := by
  have HB := Aside0.mk (Below.refl w.heap.size w)
  have H : ((riverbankref02_Is.f k a0).bind fun t296 => (if t296 = true then ((riverbankref05_real.f a1).bind fun t297 => (riverbankref05_All.j0 k a0 a1 ([] : List Int) (!t297))) else (riverbankref05_All.j0 k a0 a1 ([] : List Int) true))) = some r := h
  clear h
  have HC3 := Aside0.mk H
  clear H
  go_enter Try.func16, Try.ntmps16
  go_upto_region 2 with (fail)
  go_cut [14] (fun v14 wc => ∃ (kq : Nat) (x14_2 : Bool), v14 = .bool x14_2 ∧ Aside0 (riverbankref05_All.j0 kq a0 a1 ([] : List Int) x14_2 = some r) ∧ Aside0 (kq ≤ k) ∧ Aside0 (Kd.R (Kd.int .i64) 3 wc w.heap.size (fun _ => True) (.slice none 0 0) ([] : List Int)) ∧ Aside0 (Below w.heap.size w wc))
  case first =>
    have H := HC3.out
    clear HC3
    replace H := Option.bind_eq_some_iff.mp H
    obtain ⟨t296, A40, H⟩ := H
    replace H : (if t296 = true then ((riverbankref05_real.f a1).bind fun t297 => (riverbankref05_All.j0 k a0 a1 ([] : List Int) (!t297))) else (riverbankref05_All.j0 k a0 a1 ([] : List Int) true)) = some r := H
    have A4 := Aside0.mk A40
    clear A40
    by_cases c5 : t296 = true
    · subst c5
      have H1 : ((riverbankref05_real.f a1).bind fun t297 => (riverbankref05_All.j0 k a0 a1 ([] : List Int) (!t297))) = some r := by rw [if_pos rfl] at H; exact H
      clear H
      have H := H1
      clear H1
      replace H := Option.bind_eq_some_iff.mp H
      obtain ⟨t297, A60, H⟩ := H
      replace H : (riverbankref05_All.j0 k a0 a1 ([] : List Int) (!t297)) = some r := H
      have A6 := Aside0.mk A60
      clear A60
      have H' := Aside0.mk H
      clear H
      go_wp2_with (first | ((with_reducible refine gate_callee (f := 47) rfl ?_); refine goesL_ (some 8) rfl rfl Try.func47 (by kernel_rfl) rfl #[.string a0] rfl (by (try simp only [List.map_toArray, List.map_cons, List.map_nil]); first | done | rfl | (simp only [List.length_drop, List.length_take]; rfl)) ?_; (with_reducible refine (riverbankref02_Is.calls k a0 true _ A4.out).mono ?_); rintro e w' ⟨rfl, ⟨nd, rfl⟩⟩; refine ⟨_, rfl, ?_⟩) | (go_at_call 48; (with_reducible refine (riverbankref05_real.calls a1 t297 _ A6.out).mono ?_); rintro e w' ⟨rfl, ⟨nd, rfl⟩⟩))
      go_meet
      case rel => exact ⟨_, (!t297), (by first | rfl | (simp; done) | (simp [*]; done)), H', ⟨by first | omega | exact Nat.le_refl _⟩, ⟨by first | exact Kd.R_nil _ _ _ _ _ | exact Kd.N_nil _ _ _ _ _ | exact Kd.V_nil _ _ _ _ _ | exact Kd.Q_nil _ _ _ _ _ | exact Kd.S_nil _ _ _ _ _⟩, ⟨by repeat (first | (with_reducible first | exact HB.out | apply below_alloc | apply pw_below_drewN | apply below_drew1) | exact HB.out)⟩⟩
    · replace c5 := Bool.eq_false_iff.mpr c5
      subst c5
      have H1 : (riverbankref05_All.j0 k a0 a1 ([] : List Int) true) = some r := by rw [if_neg (show ¬ (false = true) by decide)] at H; exact H
      clear H
      have H := H1
      clear H1
      have H' := Aside0.mk H
      clear H
      go_wp2_with (first | ((with_reducible refine gate_callee (f := 47) rfl ?_); refine goesL_ (some 8) rfl rfl Try.func47 (by kernel_rfl) rfl #[.string a0] rfl (by (try simp only [List.map_toArray, List.map_cons, List.map_nil]); first | done | rfl | (simp only [List.length_drop, List.length_take]; rfl)) ?_; (with_reducible refine (riverbankref02_Is.calls k a0 false _ A4.out).mono ?_); rintro e w' ⟨rfl, ⟨nd, rfl⟩⟩; refine ⟨_, rfl, ?_⟩))
      go_meet
      case rel => exact ⟨_, (true), (by first | rfl | (simp; done) | (simp [*]; done)), H', ⟨by first | omega | exact Nat.le_refl _⟩, ⟨by first | exact Kd.R_nil _ _ _ _ _ | exact Kd.N_nil _ _ _ _ _ | exact Kd.V_nil _ _ _ _ _ | exact Kd.Q_nil _ _ _ _ _ | exact Kd.S_nil _ _ _ _ _⟩, ⟨by repeat (first | (with_reducible first | exact HB.out | apply below_alloc | apply pw_below_drewN | apply below_drew1) | exact HB.out)⟩⟩
  case rest =>
    clear HC3
    try clear c1
    try clear p2
    try clear c4
    try clear c5
    obtain ⟨kq, x14_2, rfl, HA, HJ2, HO_5, HB⟩ := hcut
    cases kq with
    | zero => exact absurd HA.out (by simp [riverbankref05_All.j0])
    | succ kj2 =>
      have H := HA.out
      clear HA
      simp only [riverbankref05_All.j0] at H
      by_cases c7 : x14_2 = true
      · subst c7
        have H1 : (some ([] : List Int)) = some r := by rw [if_pos rfl] at H; exact H
        clear H
        have H := H1
        clear H1
        obtain rfl := Option.some.inj H
        go_wp2
        go_ret
        exact ⟨_, by first | rfl | (simp [errW_none, errW_some] <;> rfl) | (simp [*, errW_none, errW_some] <;> rfl), by first | exact Kd.R_nil _ _ _ _ _ | exact Kd.N_nil _ _ _ _ _ | exact Kd.V_nil _ _ _ _ _ | exact Kd.Q_nil _ _ _ _ _ | exact Kd.S_nil _ _ _ _ _, by repeat (first | (with_reducible first | exact HB.out | apply below_alloc | apply pw_below_drewN | apply below_drew1) | exact HB.out)⟩
      · replace c7 := Bool.eq_false_iff.mpr c7
        subst c7
        have H1 : (riverbankref05_All.l0 kj2 a0 a1 ([] : List Int) 0) = some r := by rw [if_neg (show ¬ (false = true) by decide)] at H; exact H
        clear H
        have H := H1
        clear H1
        have H' := Aside0.mk H
        clear H
        go_wp2
        go_loopg [5, 6] kj2 (fun kq v5 v6 w' => ∃ (x5_2 : List Int) (x6_2 : Int), v6 = .int .i64 x6_2 ∧ Aside0 (riverbankref05_All.l0 kq a0 a1 x5_2 x6_2 = some r) ∧ Aside0 (kq ≤ kj2) ∧ Aside0 (Kd.R (Kd.int .i64) 3 w' w.heap.size (fun _ => True) v5 x5_2) ∧ Aside0 (Below w.heap.size w w'))
        case atStart => exact ⟨(([] : List Int)), (0), (by first | rfl | (simp; done) | (simp [*]; done)), H', ⟨Nat.le_refl _⟩, ⟨by (with_reducible repeat (first | apply Kd.R_alloc | apply Kd.R_drewN | apply Kd.R_drew)); exact HO_5.out⟩, ⟨by repeat (first | (with_reducible first | exact HB.out | apply below_alloc | apply pw_below_drewN | apply below_drew1) | exact HB.out)⟩⟩
        case round =>
          clear H'
          try clear c1
          try clear p2
          try clear c4
          try clear c5
          try clear c7
          try clear p2
          obtain ⟨x5_2, x6_2, rfl, HA, HK2, HO_5, HB⟩ := hrel
          cases gk with
          | zero => exact absurd HA.out (by simp [riverbankref05_All.l0])
          | succ k2 =>
            have H := HA.out
            clear HA
            simp only [riverbankref05_All.l0] at H
            by_cases c8 : x6_2 < 90
            · rw [if_pos c8] at H
              have c8b0 : decide (x6_2 < 90) = true := decide_eq_true c8
              clear c8
              replace H := Option.bind_eq_some_iff.mp H
              obtain ⟨t298, A90, H⟩ := H
              replace H : (if t298 = true then (if x5_2.length < 17592186044416 then (riverbankref05_All.l0 k2 a0 a1 (x5_2 ++ [x6_2]) (wrap64 (x6_2 + 1))) else (none)) else (riverbankref05_All.l0 k2 a0 a1 x5_2 (wrap64 (x6_2 + 1)))) = some r := H
              have A9 := Aside0.mk A90
              clear A90
              by_cases c10 : t298 = true
              · subst c10
                have H1 : (if x5_2.length < 17592186044416 then (riverbankref05_All.l0 k2 a0 a1 (x5_2 ++ [x6_2]) (wrap64 (x6_2 + 1))) else (none)) = some r := by rw [if_pos rfl] at H; exact H
                clear H
                have H := H1
                clear H1
                by_cases c11 : x5_2.length < 17592186044416
                · rw [if_pos c11] at H
                  have LMc11 := Aside0.mk c11
                  clear c11
                  obtain ⟨y299, hy299⟩ : ∃ y_ : List Int, y_ = (x5_2 ++ [x6_2]) := ⟨_, rfl⟩
                  replace H : (riverbankref05_All.l0 k2 a0 a1 y299 (wrap64 (x6_2 + 1))) = some r := by first | (rw [hy299]; with_reducible exact H) | (have H2_ := (Option.bind_some _ _).symm.trans H; rw [hy299]; with_reducible exact H2_) | (have H2_ := (Option.bind_some _ _).symm.trans H; with_reducible exact H2_) | with_reducible exact H | (rw [hy299]; exact H) | exact H
                  have Ny299 := Aside0.mk hy299
                  clear hy299
                  have H' := Aside0.mk H
                  clear H
                  go_wp2_with (first | ((with_reducible refine gate_callee (f := 49) rfl ?_); refine goesL_ (some 22) rfl rfl Try.func49 (by kernel_rfl) rfl #[.string a0, .int .i64 a1, .int .i64 x6_2] rfl (by (try simp only [List.map_toArray, List.map_cons, List.map_nil]); first | done | rfl | (simp only [List.length_drop, List.length_take]; rfl)) ?_; (with_reducible refine (riverbankref05_Fast.calls k2 a0 a1 x6_2 true _ A9.out).mono ?_); rintro e w12 ⟨rfl, hb⟩; refine ⟨_, rfl, ?_⟩; have n0_ := Aside0.mk (Kd.R_below (by (with_reducible repeat (first | apply Kd.R_alloc | apply Kd.R_drewN | apply Kd.R_drew)); exact HO_5.out) hb); have n1_ := Aside0.mk (below_step (by repeat (first | (with_reducible first | exact HB.out | apply below_alloc | apply pw_below_drewN | apply below_drew1) | exact HB.out)) hb); clear HO_5; clear HB; have HO_5 := n0_; have HB := n1_; clear n0_ n1_; (try clear hb); (try clear hb2); (try clear hk); (try clear hi)) | ((with_reducible refine gate_builtin (b := .append) (xs := #[.tmp 23, .tmp 25]) rfl ?_); at_builtin; refine Kd.R_append (Kd.int .i64) (w0 := w) w.heap.size rfl (.tmp 23) (.tmp 25) 24 3 (.int .i64 0) 8 rfl Try.underlying24 info3 rfl (by decide) (by omega) u5 x5_2 x6_2 [.int .i64 x6_2] (fun _ => True) (fun _ => False) rfl rfl ?aP (fun _ hk => hk.elim) ?aF ?aO ?aB ?aS ?aL ?_; (case aP => exact rfl); (case aB => exact (by repeat (first | (with_reducible first | exact HB.out | apply below_alloc | apply pw_below_drewN | apply below_drew1) | exact HB.out))); (case aF => exact (fun _ _ => trivial)); (case aO => exact (by (with_reducible repeat (first | apply Kd.R_alloc | apply Kd.R_drewN | apply Kd.R_drew)); exact HO_5.out)); (case aS => exact (below_size (by repeat (first | (with_reducible first | exact HB.out | apply below_alloc | apply pw_below_drewN | apply below_drew1) | exact HB.out)))); (case aL => have := LMc11.out; omega); intro v300 w13 ho hb hg hat; rw [← Ny299.out] at ho; have n0_ := Aside0.mk (hb); have n1_ := Aside0.mk (ho); clear HB; clear HO_5; have HB := n0_; have HO301 := n1_; clear n0_ n1_; clear ho hb hg hat))
                  go_roundg k2
                  case measure => have := HJ2.out; have := HK2.out; omega
                  case rel => exact ⟨(y299), (wrap64 (x6_2 + 1)), (by first | rfl | (simp; done) | (simp [*]; done)), H', ⟨by have := HJ2.out; have := HK2.out; omega⟩, ⟨by (with_reducible repeat (first | apply Kd.R_alloc | apply Kd.R_drewN | apply Kd.R_drew)); exact HO301.out⟩, ⟨by repeat (first | (with_reducible first | exact HB.out | apply below_alloc | apply pw_below_drewN | apply below_drew1) | exact HB.out)⟩⟩
                · rw [if_neg c11] at H
                  exact absurd H (by simp)
              · replace c10 := Bool.eq_false_iff.mpr c10
                subst c10
                have H1 : (riverbankref05_All.l0 k2 a0 a1 x5_2 (wrap64 (x6_2 + 1))) = some r := by rw [if_neg (show ¬ (false = true) by decide)] at H; exact H
                clear H
                have H := H1
                clear H1
                have H' := Aside0.mk H
                clear H
                go_wp2_with (first | ((with_reducible refine gate_callee (f := 49) rfl ?_); refine goesL_ (some 22) rfl rfl Try.func49 (by kernel_rfl) rfl #[.string a0, .int .i64 a1, .int .i64 x6_2] rfl (by (try simp only [List.map_toArray, List.map_cons, List.map_nil]); first | done | rfl | (simp only [List.length_drop, List.length_take]; rfl)) ?_; (with_reducible refine (riverbankref05_Fast.calls k2 a0 a1 x6_2 false _ A9.out).mono ?_); rintro e w14 ⟨rfl, hb⟩; refine ⟨_, rfl, ?_⟩; have n0_ := Aside0.mk (Kd.R_below (by (with_reducible repeat (first | apply Kd.R_alloc | apply Kd.R_drewN | apply Kd.R_drew)); exact HO_5.out) hb); have n1_ := Aside0.mk (below_step (by repeat (first | (with_reducible first | exact HB.out | apply below_alloc | apply pw_below_drewN | apply below_drew1) | exact HB.out)) hb); clear HO_5; clear HB; have HO_5 := n0_; have HB := n1_; clear n0_ n1_; (try clear hb); (try clear hb2); (try clear hk); (try clear hi)))
                go_roundg k2
                case measure => have := HJ2.out; have := HK2.out; omega
                case rel => exact ⟨(x5_2), (wrap64 (x6_2 + 1)), (by first | rfl | (simp; done) | (simp [*]; done)), H', ⟨by have := HJ2.out; have := HK2.out; omega⟩, ⟨by (with_reducible repeat (first | apply Kd.R_alloc | apply Kd.R_drewN | apply Kd.R_drew)); exact HO_5.out⟩, ⟨by repeat (first | (with_reducible first | exact HB.out | apply below_alloc | apply pw_below_drewN | apply below_drew1) | exact HB.out)⟩⟩
            · rw [if_neg c8] at H
              have c8b0 : decide (x6_2 < 90) = false := decide_eq_false c8
              clear c8
              obtain rfl := Option.some.inj H
              go_wp2
              go_ret
              exact ⟨_, by first | rfl | (simp [errW_none, errW_some] <;> rfl) | (simp [*, errW_none, errW_some] <;> rfl), by (with_reducible repeat (first | apply Kd.R_alloc | apply Kd.R_drewN | apply Kd.R_drew)); exact HO_5.out, by repeat (first | (with_reducible first | exact HB.out | apply below_alloc | apply pw_below_drewN | apply below_drew1) | exact HB.out)⟩

/-! ### riverbankref05_Can: function 18 -/
def riverbankref05_Can.f (k : Nat) (a0 : ByteArray) (a1 : Int) (a2 : Int) : Option (Bool) := (riverbankref02_Is.f k a0).bind fun t302 => (if t302 = true then ((riverbankref05_real.f a1).bind fun t303 => (if t303 = true then ((riverbankref05_real.f a2).bind fun t304 => (if t304 = true then ((riverbankref05_Fast.f k a0 a1 a2).bind fun t305 => (some t305)) else (some false))) else (some false))) else (some false))
theorem riverbankref05_Can.mono : ∀ a0 a1 a2 k, LeO (riverbankref05_Can.f k a0 a1 a2) (riverbankref05_Can.f (k + 1) a0 a1 a2) := by
  intro a0 a1 a2 k
  unfold riverbankref05_Can.f
  repeat' first
      | (with_reducible exact riverbankref02_Is.mono _ _)
      | (with_reducible exact riverbankref05_Fast.mono _ _ _ _)
      | (with_reducible exact LeO.refl _)
      | (with_reducible exact LeO.none _)
      | (with_reducible refine LeO.ite ?_ ?_)
      | (with_reducible refine LeO.bind ?_ (fun _ => ?_))
      | exact riverbankref02_Is.mono _ _
      | exact riverbankref05_Fast.mono _ _ _ _
      | exact LeO.none _
      | refine LeO.ite ?_ ?_
      | refine LeO.bind ?_ (fun _ => ?_)
set_option maxHeartbeats 8000000 in
set_option maxRecDepth 100000 in
theorem riverbankref05_Can.calls (k : Nat) (a0 : ByteArray) (a1 : Int) (a2 : Int) (r : Bool) (w : World) (h : riverbankref05_Can.f k a0 a1 a2 = some r) :
    Calls Try.prog 18 #[.string a0, .int .i64 a1, .int .i64 a2] w fun e w' => e = .returned (.bool r) ∧ Below w.heap.size w w' := by
  have HB := Aside0.mk (Below.refl w.heap.size w)
  have H : ((riverbankref02_Is.f k a0).bind fun t302 => (if t302 = true then ((riverbankref05_real.f a1).bind fun t303 => (if t303 = true then ((riverbankref05_real.f a2).bind fun t304 => (if t304 = true then ((riverbankref05_Fast.f k a0 a1 a2).bind fun t305 => (some t305)) else (some false))) else (some false))) else (some false))) = some r := h
  clear h
  replace H := Option.bind_eq_some_iff.mp H
  obtain ⟨t302, A40, H⟩ := H
  replace H : (if t302 = true then ((riverbankref05_real.f a1).bind fun t303 => (if t303 = true then ((riverbankref05_real.f a2).bind fun t304 => (if t304 = true then ((riverbankref05_Fast.f k a0 a1 a2).bind fun t305 => (some t305)) else (some false))) else (some false))) else (some false)) = some r := H
  have A4 := Aside0.mk A40
  clear A40
  by_cases c5 : t302 = true
  · subst c5
    have H1 : ((riverbankref05_real.f a1).bind fun t303 => (if t303 = true then ((riverbankref05_real.f a2).bind fun t304 => (if t304 = true then ((riverbankref05_Fast.f k a0 a1 a2).bind fun t305 => (some t305)) else (some false))) else (some false))) = some r := by rw [if_pos rfl] at H; exact H
    clear H
    have H := H1
    clear H1
    replace H := Option.bind_eq_some_iff.mp H
    obtain ⟨t303, A60, H⟩ := H
    replace H : (if t303 = true then ((riverbankref05_real.f a2).bind fun t304 => (if t304 = true then ((riverbankref05_Fast.f k a0 a1 a2).bind fun t305 => (some t305)) else (some false))) else (some false)) = some r := H
    have A6 := Aside0.mk A60
    clear A60
    by_cases c7 : t303 = true
    · subst c7
      have H1 : ((riverbankref05_real.f a2).bind fun t304 => (if t304 = true then ((riverbankref05_Fast.f k a0 a1 a2).bind fun t305 => (some t305)) else (some false))) = some r := by rw [if_pos rfl] at H; exact H
      clear H
      have H := H1
      clear H1
      replace H := Option.bind_eq_some_iff.mp H
      obtain ⟨t304, A80, H⟩ := H
      replace H : (if t304 = true then ((riverbankref05_Fast.f k a0 a1 a2).bind fun t305 => (some t305)) else (some false)) = some r := H
      have A8 := Aside0.mk A80
      clear A80
      by_cases c9 : t304 = true
      · subst c9
        have H1 : ((riverbankref05_Fast.f k a0 a1 a2).bind fun t305 => (some t305)) = some r := by rw [if_pos rfl] at H; exact H
        clear H
        have H := H1
        clear H1
        replace H := Option.bind_eq_some_iff.mp H
        obtain ⟨t305, A100, H⟩ := H
        replace H : (some t305) = some r := H
        have A10 := Aside0.mk A100
        clear A100
        obtain rfl := Option.some.inj H
        go_enter Try.func18, Try.ntmps18
        go_wp2_with (first | ((with_reducible refine gate_callee (f := 47) rfl ?_); refine goesL_ (some 8) rfl rfl Try.func47 (by kernel_rfl) rfl #[.string a0] rfl (by (try simp only [List.map_toArray, List.map_cons, List.map_nil]); first | done | rfl | (simp only [List.length_drop, List.length_take]; rfl)) ?_; (with_reducible refine (riverbankref02_Is.calls k a0 true _ A4.out).mono ?_); rintro e w' ⟨rfl, ⟨nd, rfl⟩⟩; refine ⟨_, rfl, ?_⟩) | (go_at_call 48; (with_reducible refine (riverbankref05_real.calls a1 true _ A6.out).mono ?_); rintro e w' ⟨rfl, ⟨nd, rfl⟩⟩) | (go_at_call 48; (with_reducible refine (riverbankref05_real.calls a2 true _ A8.out).mono ?_); rintro e w' ⟨rfl, ⟨nd, rfl⟩⟩) | (go_at_call 49; (with_reducible refine (riverbankref05_Fast.calls k a0 a1 a2 t305 _ A10.out).mono ?_); rintro e w11 ⟨rfl, hb⟩; have n0_ := Aside0.mk (below_step (by repeat (first | (with_reducible first | exact HB.out | apply below_alloc | apply pw_below_drewN | apply below_drew1) | exact HB.out)) hb); clear HB; have HB := n0_; clear n0_; (try clear hb); (try clear hb2); (try clear hk); (try clear hi)))
        go_ret
        exact ⟨by first | rfl | (simp [errW_none, errW_some] <;> rfl) | (simp [*, errW_none, errW_some] <;> rfl), by repeat (first | (with_reducible first | exact HB.out | apply below_alloc | apply pw_below_drewN | apply below_drew1) | exact HB.out)⟩
      · replace c9 := Bool.eq_false_iff.mpr c9
        subst c9
        have H1 : (some false) = some r := by rw [if_neg (show ¬ (false = true) by decide)] at H; exact H
        clear H
        have H := H1
        clear H1
        obtain rfl := Option.some.inj H
        go_enter Try.func18, Try.ntmps18
        go_wp2_with (first | ((with_reducible refine gate_callee (f := 47) rfl ?_); refine goesL_ (some 8) rfl rfl Try.func47 (by kernel_rfl) rfl #[.string a0] rfl (by (try simp only [List.map_toArray, List.map_cons, List.map_nil]); first | done | rfl | (simp only [List.length_drop, List.length_take]; rfl)) ?_; (with_reducible refine (riverbankref02_Is.calls k a0 true _ A4.out).mono ?_); rintro e w' ⟨rfl, ⟨nd, rfl⟩⟩; refine ⟨_, rfl, ?_⟩) | (go_at_call 48; (with_reducible refine (riverbankref05_real.calls a1 true _ A6.out).mono ?_); rintro e w' ⟨rfl, ⟨nd, rfl⟩⟩) | (go_at_call 48; (with_reducible refine (riverbankref05_real.calls a2 false _ A8.out).mono ?_); rintro e w' ⟨rfl, ⟨nd, rfl⟩⟩))
        go_ret
        exact ⟨by first | rfl | (simp [errW_none, errW_some] <;> rfl) | (simp [*, errW_none, errW_some] <;> rfl), by repeat (first | (with_reducible first | exact HB.out | apply below_alloc | apply pw_below_drewN | apply below_drew1) | exact HB.out)⟩
    · replace c7 := Bool.eq_false_iff.mpr c7
      subst c7
      have H1 : (some false) = some r := by rw [if_neg (show ¬ (false = true) by decide)] at H; exact H
      clear H
      have H := H1
      clear H1
      obtain rfl := Option.some.inj H
      go_enter Try.func18, Try.ntmps18
      go_wp2_with (first | ((with_reducible refine gate_callee (f := 47) rfl ?_); refine goesL_ (some 8) rfl rfl Try.func47 (by kernel_rfl) rfl #[.string a0] rfl (by (try simp only [List.map_toArray, List.map_cons, List.map_nil]); first | done | rfl | (simp only [List.length_drop, List.length_take]; rfl)) ?_; (with_reducible refine (riverbankref02_Is.calls k a0 true _ A4.out).mono ?_); rintro e w' ⟨rfl, ⟨nd, rfl⟩⟩; refine ⟨_, rfl, ?_⟩) | (go_at_call 48; (with_reducible refine (riverbankref05_real.calls a1 false _ A6.out).mono ?_); rintro e w' ⟨rfl, ⟨nd, rfl⟩⟩))
      go_ret
      exact ⟨by first | rfl | (simp [errW_none, errW_some] <;> rfl) | (simp [*, errW_none, errW_some] <;> rfl), by repeat (first | (with_reducible first | exact HB.out | apply below_alloc | apply pw_below_drewN | apply below_drew1) | exact HB.out)⟩
  · replace c5 := Bool.eq_false_iff.mpr c5
    subst c5
    have H1 : (some false) = some r := by rw [if_neg (show ¬ (false = true) by decide)] at H; exact H
    clear H
    have H := H1
    clear H1
    obtain rfl := Option.some.inj H
    go_enter Try.func18, Try.ntmps18
    go_wp2_with (first | ((with_reducible refine gate_callee (f := 47) rfl ?_); refine goesL_ (some 8) rfl rfl Try.func47 (by kernel_rfl) rfl #[.string a0] rfl (by (try simp only [List.map_toArray, List.map_cons, List.map_nil]); first | done | rfl | (simp only [List.length_drop, List.length_take]; rfl)) ?_; (with_reducible refine (riverbankref02_Is.calls k a0 false _ A4.out).mono ?_); rintro e w' ⟨rfl, ⟨nd, rfl⟩⟩; refine ⟨_, rfl, ?_⟩))
    go_ret
    exact ⟨by first | rfl | (simp [errW_none, errW_some] <;> rfl) | (simp [*, errW_none, errW_some] <;> rfl), by repeat (first | (with_reducible first | exact HB.out | apply below_alloc | apply pw_below_drewN | apply below_drew1) | exact HB.out)⟩

/-! ### riverbankref05_Between: function 20 -/
def riverbankref05_Between.f (k : Nat) (a0 : ByteArray) (a1 : Int) (a2 : Int) : Option (Int) := (riverbankref02_Is.f k a0).bind fun t306 => (if t306 = true then ((riverbankref05_real.f a1).bind fun t307 => (if t307 = true then ((riverbankref05_real.f a2).bind fun t308 => (if t308 = true then ((riverbankref05_between.f k a0 a1 a2).bind fun t309 => (some t309)) else (some (-1)))) else (some (-1)))) else (some (-1)))
theorem riverbankref05_Between.mono : ∀ a0 a1 a2 k, LeO (riverbankref05_Between.f k a0 a1 a2) (riverbankref05_Between.f (k + 1) a0 a1 a2) := by
  intro a0 a1 a2 k
  unfold riverbankref05_Between.f
  repeat' first
      | (with_reducible exact riverbankref02_Is.mono _ _)
      | (with_reducible exact riverbankref05_between.mono _ _ _ _)
      | (with_reducible exact LeO.refl _)
      | (with_reducible exact LeO.none _)
      | (with_reducible refine LeO.ite ?_ ?_)
      | (with_reducible refine LeO.bind ?_ (fun _ => ?_))
      | exact riverbankref02_Is.mono _ _
      | exact riverbankref05_between.mono _ _ _ _
      | exact LeO.none _
      | refine LeO.ite ?_ ?_
      | refine LeO.bind ?_ (fun _ => ?_)
set_option maxHeartbeats 8000000 in
set_option maxRecDepth 100000 in
theorem riverbankref05_Between.calls (k : Nat) (a0 : ByteArray) (a1 : Int) (a2 : Int) (r : Int) (w : World) (h : riverbankref05_Between.f k a0 a1 a2 = some r) :
    Calls Try.prog 20 #[.string a0, .int .i64 a1, .int .i64 a2] w fun e w' => e = .returned (.int .i64 r) ∧ Below w.heap.size w w' := by
  have HB := Aside0.mk (Below.refl w.heap.size w)
  have H : ((riverbankref02_Is.f k a0).bind fun t306 => (if t306 = true then ((riverbankref05_real.f a1).bind fun t307 => (if t307 = true then ((riverbankref05_real.f a2).bind fun t308 => (if t308 = true then ((riverbankref05_between.f k a0 a1 a2).bind fun t309 => (some t309)) else (some (-1)))) else (some (-1)))) else (some (-1)))) = some r := h
  clear h
  replace H := Option.bind_eq_some_iff.mp H
  obtain ⟨t306, A40, H⟩ := H
  replace H : (if t306 = true then ((riverbankref05_real.f a1).bind fun t307 => (if t307 = true then ((riverbankref05_real.f a2).bind fun t308 => (if t308 = true then ((riverbankref05_between.f k a0 a1 a2).bind fun t309 => (some t309)) else (some (-1)))) else (some (-1)))) else (some (-1))) = some r := H
  have A4 := Aside0.mk A40
  clear A40
  by_cases c5 : t306 = true
  · subst c5
    have H1 : ((riverbankref05_real.f a1).bind fun t307 => (if t307 = true then ((riverbankref05_real.f a2).bind fun t308 => (if t308 = true then ((riverbankref05_between.f k a0 a1 a2).bind fun t309 => (some t309)) else (some (-1)))) else (some (-1)))) = some r := by rw [if_pos rfl] at H; exact H
    clear H
    have H := H1
    clear H1
    replace H := Option.bind_eq_some_iff.mp H
    obtain ⟨t307, A60, H⟩ := H
    replace H : (if t307 = true then ((riverbankref05_real.f a2).bind fun t308 => (if t308 = true then ((riverbankref05_between.f k a0 a1 a2).bind fun t309 => (some t309)) else (some (-1)))) else (some (-1))) = some r := H
    have A6 := Aside0.mk A60
    clear A60
    by_cases c7 : t307 = true
    · subst c7
      have H1 : ((riverbankref05_real.f a2).bind fun t308 => (if t308 = true then ((riverbankref05_between.f k a0 a1 a2).bind fun t309 => (some t309)) else (some (-1)))) = some r := by rw [if_pos rfl] at H; exact H
      clear H
      have H := H1
      clear H1
      replace H := Option.bind_eq_some_iff.mp H
      obtain ⟨t308, A80, H⟩ := H
      replace H : (if t308 = true then ((riverbankref05_between.f k a0 a1 a2).bind fun t309 => (some t309)) else (some (-1))) = some r := H
      have A8 := Aside0.mk A80
      clear A80
      by_cases c9 : t308 = true
      · subst c9
        have H1 : ((riverbankref05_between.f k a0 a1 a2).bind fun t309 => (some t309)) = some r := by rw [if_pos rfl] at H; exact H
        clear H
        have H := H1
        clear H1
        replace H := Option.bind_eq_some_iff.mp H
        obtain ⟨t309, A100, H⟩ := H
        replace H : (some t309) = some r := H
        have A10 := Aside0.mk A100
        clear A100
        obtain rfl := Option.some.inj H
        go_enter Try.func20, Try.ntmps20
        go_wp2_with (first | ((with_reducible refine gate_callee (f := 47) rfl ?_); refine goesL_ (some 8) rfl rfl Try.func47 (by kernel_rfl) rfl #[.string a0] rfl (by (try simp only [List.map_toArray, List.map_cons, List.map_nil]); first | done | rfl | (simp only [List.length_drop, List.length_take]; rfl)) ?_; (with_reducible refine (riverbankref02_Is.calls k a0 true _ A4.out).mono ?_); rintro e w' ⟨rfl, ⟨nd, rfl⟩⟩; refine ⟨_, rfl, ?_⟩) | (go_at_call 48; (with_reducible refine (riverbankref05_real.calls a1 true _ A6.out).mono ?_); rintro e w' ⟨rfl, ⟨nd, rfl⟩⟩) | (go_at_call 48; (with_reducible refine (riverbankref05_real.calls a2 true _ A8.out).mono ?_); rintro e w' ⟨rfl, ⟨nd, rfl⟩⟩) | ((with_reducible refine gate_callee (f := 52) rfl ?_); refine goesL_ (some 23) rfl rfl Try.func52 (by kernel_rfl) rfl #[.string a0, .int .i64 a1, .int .i64 a2] rfl (by (try simp only [List.map_toArray, List.map_cons, List.map_nil]); first | done | rfl | (simp only [List.length_drop, List.length_take]; rfl)) ?_; (with_reducible refine (riverbankref05_between.calls k a0 a1 a2 t309 _ A10.out).mono ?_); rintro e w11 ⟨rfl, hb⟩; refine ⟨_, rfl, ?_⟩; have n0_ := Aside0.mk (below_step (by repeat (first | (with_reducible first | exact HB.out | apply below_alloc | apply pw_below_drewN | apply below_drew1) | exact HB.out)) hb); clear HB; have HB := n0_; clear n0_; (try clear hb); (try clear hb2); (try clear hk); (try clear hi)))
        go_ret
        exact ⟨by first | rfl | (simp [errW_none, errW_some] <;> rfl) | (simp [*, errW_none, errW_some] <;> rfl), by repeat (first | (with_reducible first | exact HB.out | apply below_alloc | apply pw_below_drewN | apply below_drew1) | exact HB.out)⟩
      · replace c9 := Bool.eq_false_iff.mpr c9
        subst c9
        have H1 : (some (-1)) = some r := by rw [if_neg (show ¬ (false = true) by decide)] at H; exact H
        clear H
        have H := H1
        clear H1
        obtain rfl := Option.some.inj H
        go_enter Try.func20, Try.ntmps20
        go_wp2_with (first | ((with_reducible refine gate_callee (f := 47) rfl ?_); refine goesL_ (some 8) rfl rfl Try.func47 (by kernel_rfl) rfl #[.string a0] rfl (by (try simp only [List.map_toArray, List.map_cons, List.map_nil]); first | done | rfl | (simp only [List.length_drop, List.length_take]; rfl)) ?_; (with_reducible refine (riverbankref02_Is.calls k a0 true _ A4.out).mono ?_); rintro e w' ⟨rfl, ⟨nd, rfl⟩⟩; refine ⟨_, rfl, ?_⟩) | (go_at_call 48; (with_reducible refine (riverbankref05_real.calls a1 true _ A6.out).mono ?_); rintro e w' ⟨rfl, ⟨nd, rfl⟩⟩) | (go_at_call 48; (with_reducible refine (riverbankref05_real.calls a2 false _ A8.out).mono ?_); rintro e w' ⟨rfl, ⟨nd, rfl⟩⟩))
        go_ret
        exact ⟨by first | rfl | (simp [errW_none, errW_some] <;> rfl) | (simp [*, errW_none, errW_some] <;> rfl), by repeat (first | (with_reducible first | exact HB.out | apply below_alloc | apply pw_below_drewN | apply below_drew1) | exact HB.out)⟩
    · replace c7 := Bool.eq_false_iff.mpr c7
      subst c7
      have H1 : (some (-1)) = some r := by rw [if_neg (show ¬ (false = true) by decide)] at H; exact H
      clear H
      have H := H1
      clear H1
      obtain rfl := Option.some.inj H
      go_enter Try.func20, Try.ntmps20
      go_wp2_with (first | ((with_reducible refine gate_callee (f := 47) rfl ?_); refine goesL_ (some 8) rfl rfl Try.func47 (by kernel_rfl) rfl #[.string a0] rfl (by (try simp only [List.map_toArray, List.map_cons, List.map_nil]); first | done | rfl | (simp only [List.length_drop, List.length_take]; rfl)) ?_; (with_reducible refine (riverbankref02_Is.calls k a0 true _ A4.out).mono ?_); rintro e w' ⟨rfl, ⟨nd, rfl⟩⟩; refine ⟨_, rfl, ?_⟩) | (go_at_call 48; (with_reducible refine (riverbankref05_real.calls a1 false _ A6.out).mono ?_); rintro e w' ⟨rfl, ⟨nd, rfl⟩⟩))
      go_ret
      exact ⟨by first | rfl | (simp [errW_none, errW_some] <;> rfl) | (simp [*, errW_none, errW_some] <;> rfl), by repeat (first | (with_reducible first | exact HB.out | apply below_alloc | apply pw_below_drewN | apply below_drew1) | exact HB.out)⟩
  · replace c5 := Bool.eq_false_iff.mpr c5
    subst c5
    have H1 : (some (-1)) = some r := by rw [if_neg (show ¬ (false = true) by decide)] at H; exact H
    clear H
    have H := H1
    clear H1
    obtain rfl := Option.some.inj H
    go_enter Try.func20, Try.ntmps20
    go_wp2_with (first | ((with_reducible refine gate_callee (f := 47) rfl ?_); refine goesL_ (some 8) rfl rfl Try.func47 (by kernel_rfl) rfl #[.string a0] rfl (by (try simp only [List.map_toArray, List.map_cons, List.map_nil]); first | done | rfl | (simp only [List.length_drop, List.length_take]; rfl)) ?_; (with_reducible refine (riverbankref02_Is.calls k a0 false _ A4.out).mono ?_); rintro e w' ⟨rfl, ⟨nd, rfl⟩⟩; refine ⟨_, rfl, ?_⟩))
    go_ret
    exact ⟨by first | rfl | (simp [errW_none, errW_some] <;> rfl) | (simp [*, errW_none, errW_some] <;> rfl), by repeat (first | (with_reducible first | exact HB.out | apply below_alloc | apply pw_below_drewN | apply below_drew1) | exact HB.out)⟩

end Go.Proofs.Ytcanbidenhcohaa.P

/- Plain law: the reference's answer of where a piece reaches, as printed, is the document's. -/
namespace Go.Proofs.Ytcanbidenhcohaa.P
open Go.RowKit Go.Lib Go.Proofs.YtcanbidenhcohaaW.PrintWords Go.Proofs.YtcanbidenhcohaaW.PrintLast Go.Proofs.YtcanbidenhcohaaW.PrintMore
open Sp

/-- What stands on a square. -/
def cel (s : ByteArray) (n : Nat) : Nat := (bt s (n : Int)).toNat
theorem bt_cel (s : ByteArray) (n : Nat) : bt s (n : Int) = ((cel s n : Nat) : Int) := by unfold cel; have := bt_range s (n : Int); omega
theorem cel_lt (s : ByteArray) (n : Nat) : cel s n < 256 := by unfold cel; have := bt_range s (n : Int); omega
theorem board_size {s : ByteArray} (h : isBoard s = true) : s.size = 90 := by simp [isBoard] at h; exact h.1
theorem board_cell {s : ByteArray} (h : isBoard s = true) {n : Nat} (hn : n < 90) : cellB (cel s n) = true := by
  have hs := board_size h
  simp only [isBoard, Bool.and_eq_true, List.all_eq_true] at h
  have hl : n < s.data.toList.length := by rw [Array.length_toList]; show n < s.size; omega
  have := h.2 _ (List.getElem_mem hl)
  have e : cel s n = (s.data.toList[n]'hl).toNat := by
    unfold cel
    rw [← bt_at s (n : Int) (by omega)]
    simp only [Int.toNat_natCast]
    rw [Array.getElem_toList]
    rfl
  rw [e]; exact this
theorem board_letter {s : ByteArray} (h : isBoard s = true) {n : Nat} (hn : n < 90) : cel s n ∈ letters := cellB_mem _ (board_cell h hn)

/-! ### functions with rounds, from some number of rounds on -/
theorem rside_f (x k : Nat) (hx : x < 256) (hk : 1 ≤ k) : riverbankref02_Side.f k (x : Int) = some (sideN x) := at_rounds (riverbankref02_Side.mono _) hk (rside_all ⟨x, hx⟩)
theorem rkind_f (x k : Nat) (hx : x < 256) (hk : 1 ≤ k) : riverbankref02_Kind.f k (x : Int) = some ((kindN x : Nat) : Int) := at_rounds (riverbankref02_Kind.mono _) hk (rkind_all ⟨x, hx⟩)
theorem rmay_f (x n k : Nat) (hx : x ∈ letters) (hn : n < 90) (hk : 3 ≤ k) : riverbankref03_May.f k (x : Int) (n : Int) = some (mayN x n) := at_rounds (riverbankref03_May.mono _ _) hk (rmay_all x hx ⟨n, hn⟩)
theorem side_f (x : Nat) (hx : x < 256) : board_Side.f (x : Int) = some (sideN x) := side_all ⟨x, hx⟩
theorem kind_f (x : Nat) (hx : x < 256) : board_Kind.f (x : Int) = some ((kindN x : Nat) : Int) := kind_all ⟨x, hx⟩
theorem rpawn_all : ∀ s : Fin 2, ∀ a b : Fin 90, riverbankref05_pawn.f 1 ((s.1 : Nat) : Int) ((a.1 : Nat) : Int) ((b.1 : Nat) : Int) = some (pawnN ((s.1 : Nat) : Int) a.1 b.1) := by decide +kernel
theorem div9 : ∀ a : Fin 90, wrap64 (Int.tdiv ((a.1 : Nat) : Int) 9) = ((a.1 / 9 : Nat) : Int) := by decide +kernel
theorem mod9 : ∀ a : Fin 90, Int.tmod ((a.1 : Nat) : Int) 9 = ((a.1 % 9 : Nat) : Int) := by decide +kernel
theorem away_f (a b : Nat) (ha : a < 1000) (hb : b < 1000) : riverbankref05_away.f (a : Int) (b : Int) = some ((away a b : Nat) : Int) := by
  unfold riverbankref05_away.f away mx mn wrap64
  congr 1
  repeat' split
  all_goals omega

theorem wrap_small (x : Int) (h1 : -1000000000 ≤ x) (h2 : x ≤ 1000000000) : wrap64 x = x := by unfold wrap64; omega
/-! ### between -/
/-- The places i, i + step, .. -/
def walkS (step : Nat) : Nat → Nat → List Nat
  | 0, _ => []
  | m + 1, i => i :: walkS step m (i + step)
/-- They end below M. -/
def endsS (step M : Nat) : Nat → Nat → Bool
  | 0, i => decide (M ≤ i)
  | m + 1, i => decide (i < M) && endsS step M m (i + step)

theorem between_l0 (s : ByteArray) (hs : s.size = 90) (x1 x2 : Int) (step M : Nat) (hstep : step ≤ 9) (hM : M ≤ 89) (hmx : mx x1 x2 = (M : Int)) (rem : Nat) :
    ∀ (i n k : Nat), rem < k → n + rem < 1000 → endsS step M rem i = true →
    riverbankref05_between.l0 k s x1 x2 step n i = some ((n + (walkS step rem i).countP (fun j => cel s j != 46) : Nat) : Int) := by
  induction rem with
  | zero =>
    intro i n k hk hn he
    obtain ⟨k, rfl⟩ : ∃ m, k = m + 1 := ⟨k - 1, by omega⟩
    have he' : M ≤ i := by simpa [endsS] using he
    simp only [riverbankref05_between.l0]
    rw [if_neg (by omega)]
    simp [walkS]
  | succ rem ih =>
    intro i n k hk hn he
    obtain ⟨k, rfl⟩ : ∃ m, k = m + 1 := ⟨k - 1, by omega⟩
    simp only [endsS, Bool.and_eq_true, decide_eq_true_eq] at he
    obtain ⟨hlt, he⟩ := he
    have hw : wrap64 ((i : Int) + (step : Int)) = ((i + step : Nat) : Int) := by rw [wrap_small _ (by omega) (by omega)]; omega
    have hn1 : wrap64 ((n : Int) + 1) = ((n + 1 : Nat) : Int) := by rw [wrap_small _ (by omega) (by omega)]; omega
    have i1 := ih (i + step) n k (by omega) (by omega) he
    have i2 := ih (i + step) (n + 1) k (by omega) (by omega) he
    simp only [riverbankref05_between.l0]
    rw [if_pos (by omega), if_pos (by omega), if_pos (by omega), bt_cel, walkS, List.countP_cons]
    by_cases hc : cel s i = 46
    · rw [if_pos (by omega), hw, i1]
      simp [hc]
    · rw [if_neg (by omega), hw, hn1, i2]
      simp [hc]
      omega
theorem betw_geo : ∀ a b : Fin 90, a.1 ≠ b.1 → (a.1 / 9 = b.1 / 9 → walkS 1 (away a.1 b.1 - 1) (Nat.min a.1 b.1 + 1) = betwL a.1 b.1 ∧ endsS 1 (Nat.max a.1 b.1) (away a.1 b.1 - 1) (Nat.min a.1 b.1 + 1) = true) ∧
    (a.1 / 9 ≠ b.1 / 9 → a.1 % 9 = b.1 % 9 → walkS 9 (away (a.1 / 9) (b.1 / 9) - 1) (Nat.min a.1 b.1 + 9) = betwL a.1 b.1 ∧ endsS 9 (Nat.max a.1 b.1) (away (a.1 / 9) (b.1 / 9) - 1) (Nat.min a.1 b.1 + 9) = true) := by decide +kernel
theorem mx_nat (a b : Nat) : mx (a : Int) (b : Int) = ((Nat.max a b : Nat) : Int) := by unfold mx; have : Nat.max a b = if a ≤ b then b else a := rfl; rw [this]; split <;> split <;> omega
theorem mn_nat (a b : Nat) : mn (a : Int) (b : Int) = ((Nat.min a b : Nat) : Int) := by unfold mn; have : Nat.min a b = if a ≤ b then a else b := rfl; rw [this]; split <;> split <;> omega
theorem rbetween_f (s : ByteArray) (hs : s.size = 90) (a b k : Nat) (ha : a < 90) (hb : b < 90) (hk : 100 ≤ k) : riverbankref05_between.f k s (a : Int) (b : Int) = some (betwN (cel s) a b) := by
  obtain ⟨k, rfl⟩ : ∃ m, k = m + 1 := ⟨k - 1, by omega⟩
  have da := div9 ⟨a, ha⟩
  have db := div9 ⟨b, hb⟩
  have ma := mod9 ⟨a, ha⟩
  have mb := mod9 ⟨b, hb⟩
  have hmn := mn_nat a b
  have hmx := mx_nat a b
  have hle : Nat.max a b ≤ 89 := by have : Nat.max a b = if a ≤ b then b else a := rfl; rw [this]; split <;> omega
  have hmin : Nat.min a b ≤ 89 := by have : Nat.min a b = if a ≤ b then a else b := rfl; rw [this]; split <;> omega
  have hw : ∀ m d : Nat, m ≤ 89 → d ≤ 9 → wrap64 ((m : Int) + (d : Int)) = ((m + d : Nat) : Int) := fun m d h1 h2 => by rw [wrap_small _ (by omega) (by omega)]; omega
  have hw1 : wrap64 (((Nat.min a b : Nat) : Int) + 1) = ((Nat.min a b + 1 : Nat) : Int) := hw _ 1 hmin (by omega)
  have hw9 : wrap64 (((Nat.min a b : Nat) : Int) + 9) = ((Nat.min a b + 9 : Nat) : Int) := hw _ 9 hmin (by omega)
  have haw : away a b ≤ 89 := by unfold away; split <;> omega
  have haw9 : away (a / 9) (b / 9) ≤ 89 := by unfold away; split <;> omega
  unfold riverbankref05_between.f betwN
  by_cases hab : a = b
  · rw [if_pos (by omega), if_pos hab]
  · rw [if_neg (by omega), if_neg hab, da, db, ma, mb]
    obtain ⟨g1, g9⟩ := betw_geo ⟨a, ha⟩ ⟨b, hb⟩ hab
    simp only at g1 g9 ⊢
    by_cases h1 : a / 9 = b / 9
    · obtain ⟨e1, e2⟩ := g1 h1
      rw [if_pos (by omega), if_pos (.inl h1)]
      simp only [riverbankref05_between.j0]
      rw [hmn, hw1]
      have := between_l0 s hs a b 1 _ (by omega) hle hmx _ _ 0 k (by omega) (by omega) e2
      rw [e1] at this
      simpa using this
    · rw [if_neg (by omega)]
      by_cases h9 : a % 9 = b % 9
      · obtain ⟨e1, e2⟩ := g9 h1 h9
        rw [if_pos (by omega), if_pos (.inr h9)]
        simp only [riverbankref05_between.j0]
        rw [hmn, hw9]
        have := between_l0 s hs a b 9 _ (by omega) hle hmx _ _ 0 k (by omega) (by omega) e2
        rw [e1] at this
        simpa using this
      · rw [if_neg (by omega), if_neg (by rintro (h | h) <;> omega)]
end Go.Proofs.Ytcanbidenhcohaa.P

/- slices.Sort and slices.Compact at []int, in the words of a row of the call's own. -/
namespace Go.Proofs.Ytcanbidenhcohaa.P
open Go.RowKit Go.Lib Go.Proofs.YtcanbidenhcohaaW.PrintWords Go.Proofs.YtcanbidenhcohaaW.PrintLast Go.Proofs.YtcanbidenhcohaaW.PrintMore
set_option linter.unusedVariables false
set_option linter.unusedSimpArgs false

theorem row_put {w : World} {base b cap q : Nat} {os : Array Obj} {xs ys : List Int} (hy : ys.length = xs.length)
    (HO : w.ownsRow base 3 1 (.slice (some ⟨b, 0, none⟩) xs.length cap) xs.length (nums .i64 xs)) :
    (Sort.grow (Sort.putRow (Value.int .i64) (Sort.ahead w q) b 0 ys.toArray) os).ownsRow base 3 1 (.slice (some ⟨b, 0, none⟩) ys.length cap) ys.length (nums .i64 ys) ∧
    KeepBut w (Sort.grow (Sort.putRow (Value.int .i64) (Sort.ahead w q) b 0 ys.toArray) os) b none ∧ ∀ w0 : World, w0.heap.size ≤ b → Below w0.heap.size w0 w → Below w0.heap.size w0 (Sort.grow (Sort.putRow (Value.int .i64) (Sort.ahead w q) b 0 ys.toArray) os) := by
  obtain ⟨hl, h⟩ := HO
  rcases h with ⟨h, _⟩ | ⟨g, c, cur, h1, h2, h3, h4, h5, h6, h7⟩
  · cases h
  · injection h1 with a1 a2 a3
    injection a1 with a1
    injection a1 with a1
    subst a1 a3
    have hlt : b < w.heap.size := blk_lt h3
    have hsz : (Sort.putRow (Value.int .i64) (Sort.ahead w q) b 0 ys.toArray).heap.size = w.heap.size := by rw [Sort.size_putRow]; rfl
    have hput : (Sort.putRow (Value.int .i64) (Sort.ahead w q) b 0 ys.toArray).heap[b]? = some (.cells (Sort.putCells (Value.int .i64) 0 ys.toArray cur) 3 (0, 0)) := by
      have h3' : (Sort.ahead w q).heap[b]? = some (.cells cur 3 (0, 0)) := h3
      simp only [Sort.putRow, Sort.mapBlock, Array.getElem?_modify, if_true, h3', Option.map_some, Sort.onCells]
    have hoth : ∀ i, i ≠ b → (Sort.putRow (Value.int .i64) (Sort.ahead w q) b 0 ys.toArray).heap[i]? = w.heap[i]? := by
      intro i hi
      simp [Sort.putRow, Sort.mapBlock, Array.getElem?_modify, Ne.symm hi]
    refine ⟨⟨by simp [nums], .inr ⟨b, cap, _, rfl, h2, (Sort.heap_grow_old _ os (by omega)).trans hput, by omega, h5, by simp [Sort.putCells, h6], ?_⟩⟩, ⟨?_, ?_⟩, ?_⟩
    · apply List.ext_getElem?
      intro i
      by_cases hi : i < ys.length
      · have hic : i < cur.size := by omega
        rw [Nat.mul_one, List.getElem?_take_of_lt hi]
        simp [Sort.putCells, nums, hi, hic, Array.getElem?_eq_getElem, List.getElem?_eq_getElem]
      · rw [List.getElem?_eq_none (by rw [List.length_take]; omega), List.getElem?_eq_none (by simp [nums]; omega)]
    · show w.heap.size ≤ ((Sort.putRow (Value.int .i64) (Sort.ahead w q) b 0 ys.toArray).heap ++ os).size
      rw [Array.size_append]; omega
    · intro i hi hib _
      rw [Sort.heap_grow_old _ os (by omega), hoth i hib]
    · intro w0 hb hB
      refine ⟨hB.os, hB.tape, hB.output, ?_, ?_⟩
      · show w0.heap.size ≤ ((Sort.putRow (Value.int .i64) (Sort.ahead w q) b 0 ys.toArray).heap ++ os).size
        rw [Array.size_append]; have := hB.size; omega
      · intro i hi
        have := hB.size
        rw [Sort.heap_grow_old _ os (by omega), hoth i (by omega)]
        exact hB.block i hi

theorem own_holds {w : World} {base b cap : Nat} {xs : List Int} (HO : w.ownsRow base 3 1 (.slice (some ⟨b, 0, none⟩) xs.length cap) xs.length (nums .i64 xs)) : Sort.Holds (Value.int .i64) w b 0 xs.toArray := by
  intro j hj
  have hj' : j < xs.length := by simpa using hj
  obtain ⟨h1, h2⟩ := own_at HO (j : Int) (by omega) (by omega)
  rw [Int.toNat_natCast] at h1 h2
  rw [Nat.zero_add]
  refine ⟨h1.trans ?_, h2⟩
  simp [rd, hj', List.getD_eq_getElem?_getD]

theorem sort_R (P1 : Nat → Prop) (v : Value) (xs : List Int) (w0 w : World) (hs : xs.length < 4611686018427387904) (hB : Below w0.heap.size w0 w) (ho : Kd.R (Kd.int .i64) 3 w w0.heap.size P1 v xs) :
    Calls Try.prog 45 #[v] w fun e w' => e = .returned (.tuple #[]) ∧ Kd.R (Kd.int .i64) 3 w' w0.heap.size P1 v (xs.mergeSort fun x y => decide (x ≤ y)) ∧ Below w0.heap.size w0 w' ∧ Kept w w' P1 := by
  have hown := Kd.own_of_R ho
  have hown' := hown
  obtain ⟨hl, h | ⟨b, cap, cur, hv, hb, hh, hnc, hcm, hcs, hct⟩⟩ := hown
  · obtain ⟨rfl, hz⟩ := h
    obtain rfl : xs = [] := List.length_eq_zero_iff.mp hz
    exact (Try.slices_Sort_int_none none 0 w).mono fun e w' ⟨he, hw⟩ => ⟨he, by rw [List.mergeSort_nil]; exact hw ▸ ho, hw ▸ hB, hw ▸ Kept.refl _ _⟩
  · subst hv
    have hok : P1 b := ho.1 b rfl
    refine (Try.slices_Sort_int b 0 cap xs w (own_holds hown') (blk_lt hh) hs).mono ?_
    rintro e w' ⟨he, q, os, rfl⟩
    obtain ⟨h1, h2, h3⟩ := row_put (q := q) (os := os) (xs := xs) (ys := xs.mergeSort fun x y => decide (x ≤ y)) (List.length_mergeSort _) hown'
    rw [List.length_mergeSort] at h1
    refine ⟨he, ?_, h3 w0 hb hB, (Kept.refl w P1).of_keep h2 (.inl hok)⟩
    refine Kd.R_of_own (by rw [List.length_mergeSort]; exact h1) (fun k hk => ?_)
    have : b = k := by simpa [Value.ownBlock] using hk
    exact this ▸ hok

theorem compact_len (xs : List Int) : (Lib.compact xs).length ≤ xs.length := by
  unfold Lib.compact Lib.compactUpTo
  rw [List.length_map]
  exact Nat.le_trans (List.length_filter_le _ _) (by simp)
theorem compact_R (P1 : Nat → Prop) (v : Value) (xs : List Int) (w0 w : World) (hB : Below w0.heap.size w0 w) (ho : Kd.R (Kd.int .i64) 3 w w0.heap.size P1 v xs) :
    Calls Try.prog 46 #[v] w fun e w' => ∃ v' : Value, e = .returned v' ∧ Kd.R (Kd.int .i64) 3 w' w0.heap.size P1 v' (Lib.compact xs) ∧ Below w0.heap.size w0 w' ∧ Kept w w' P1 := by
  have hown := Kd.own_of_R ho
  have hown' := hown
  obtain ⟨hl, h | ⟨b, cap, cur, hv, hb, hh, hnc, hcm, hcs, hct⟩⟩ := hown
  · obtain ⟨rfl, hz⟩ := h
    obtain rfl : xs = [] := List.length_eq_zero_iff.mp hz
    exact (Try.slices_Compact_int_empty none 0 w).mono fun e w' ⟨he, hw⟩ => ⟨_, he, hw ▸ ho, hw ▸ hB, hw ▸ Kept.refl _ _⟩
  · subst hv
    have hok : P1 b := ho.1 b rfl
    refine (Try.slices_Compact_int b 0 cap xs w (own_holds hown') (by unfold maxLen at hcm; omega) hnc).mono ?_
    rintro e w' ⟨he, q, rfl⟩
    have hc := compact_len xs
    obtain ⟨h1, h2, h3⟩ := row_put (q := q) (os := #[]) (xs := xs) (ys := Lib.compact xs ++ List.replicate (xs.length - (Lib.compact xs).length) 0) (by simp; omega) hown'
    rw [Sort.grow_empty] at h1 h2 h3
    refine ⟨_, he, ?_, h3 w0 hb hB, (Kept.refl w P1).of_keep h2 (.inl hok)⟩
    have h4 := own_take h1 (Lib.compact xs).length (by simp)
    rw [List.take_left] at h4
    refine Kd.R_of_own h4 (fun k hk => ?_)
    have : b = k := by simpa [Value.ownBlock] using hk
    exact this ▸ hok
end Go.Proofs.Ytcanbidenhcohaa.P

/- reach.All: the squares that the piece on a square reaches. -/
namespace Go.Proofs.Ytcanbidenhcohaa.P
open Go.RowKit Go.Lib Go.Proofs.YtcanbidenhcohaaW.PrintWords Go.Proofs.YtcanbidenhcohaaW.PrintLast Go.Proofs.YtcanbidenhcohaaW.PrintMore
set_option linter.unusedVariables false
set_option linter.unusedSimpArgs false

theorem quiet_drawn {f : FuncId} {args : Array Value} {w : World} {n : Nat} {v : Value} (h : Calls Try.prog f args (w.drewN n) fun e w' => e = .returned v ∧ Drawn0 (w.drewN n) w') : Calls Try.prog f args (w.drewN n) fun e w'' => e = .returned v ∧ ∃ m, w'' = w.drewN m :=
  Calls.quiet_of (h.mono fun _ _ ⟨he, hd⟩ => ⟨he, hd.out⟩)

def all_cl (s : ByteArray) (pc : Int) (n : Int) : Option Bool :=
  (reach_is.f n).bind fun t => if t = true then (if 0 ≤ n then (if n < (s.size : Int) then (board_Side.f (bt s n)).bind fun x => (board_Side.f pc).bind fun y => some (x == y) else none) else none) else some true

set_option maxHeartbeats 1000000 in
theorem all_closure (s : ByteArray) (pc n : Int) (r : Bool) (B1 B2 : Nat) (W : World) (hr : all_cl s pc n = some r) (h1 : W.cell? ⟨B1, 0, none⟩ = some (.string s)) (h2 : W.cell? ⟨B2, 0, none⟩ = some (.int .u8 pc)) :
    Calls Try.prog 43 (#[.int .i64 n] ++ #[.pointer (some ⟨B1, 0, none⟩), .pointer (some ⟨B2, 0, none⟩)]) W fun e W' => e = .returned (.bool r) ∧ Below W.heap.size W W' := by
  show Calls Try.prog 43 #[.int .i64 n, .pointer (some ⟨B1, 0, none⟩), .pointer (some ⟨B2, 0, none⟩)] W _
  unfold all_cl at hr
  obtain ⟨t, ht, hr⟩ := Option.bind_eq_some_iff.mp hr
  cases t with
  | false =>
    obtain rfl : true = r := by simpa using hr
    clear hr
    go_enter Try.func43, Try.ntmps43
    go_wp2_with fail
    go_quiet ((go_at_call 44; exact quiet_drawn (reach_is.calls _ _ _ ht)))
    go_wp2
    go_ret
    exact ⟨rfl, pw_below_drewN (Below.refl _ _) _⟩
  | true =>
    rw [if_pos rfl] at hr
    by_cases h0 : 0 ≤ n
    · rw [if_pos h0] at hr
      by_cases hn : n < (s.size : Int)
      · rw [if_pos hn] at hr
        obtain ⟨x, hx, hr⟩ := Option.bind_eq_some_iff.mp hr
        obtain ⟨y, hy, hr⟩ := Option.bind_eq_some_iff.mp hr
        have hr := Option.some.inj hr
        have HR := Lib.hid hr
        clear hr
        have hnn : n.toNat < s.size := by omega
        have hbt := bt_at s n
        go_enter Try.func43, Try.ntmps43
        go_wp2_with fail
        go_quiet (first | (go_at_call 44; exact quiet_drawn (reach_is.calls _ _ _ ht)) | (go_at_call_of 22 (Value.int .u8 (bt s n)); exact quiet_drawn (board_Side.calls _ _ _ hx)) | (go_at_call_of 22 (Value.int .u8 pc); exact quiet_drawn (board_Side.calls _ _ _ hy)))
        go_wp2
        go_ret
        exact ⟨by rw [← HR.out]; rfl, pw_below_drewN (Below.refl _ _) _⟩
      · rw [if_neg hn] at hr; cases hr
    · rw [if_neg h0] at hr; cases hr

def reach_All.f (a0 : ByteArray) (a1 : Int) : Option (List Int) :=
  (board_At.f a0 a1).bind fun pc => (reach_view_way.f 40 a0 a1 pc).bind fun l => (optFilter (fun n => (all_cl a0 pc n).map not) l).bind fun l2 =>
    if l2.length < 4611686018427387904 then some (Lib.compact (l2.mergeSort fun x y => decide (x ≤ y))) else none

/-- The list that is left, in a world that holds the closure's two variables. -/
theorem all_delete (s : ByteArray) (pc : Int) (l l2 : List Int) (B1 B2 : Nat) (w W : World) (v : Value) (hl : optFilter (fun n => (all_cl s pc n).map not) l = some l2) (h1 : W.cell? ⟨B1, 0, none⟩ = some (.string s)) (h2 : W.cell? ⟨B2, 0, none⟩ = some (.int .u8 pc)) (h12 : B1 < B2)
    (hB : Below w.heap.size w W) (hR : Kd.R (Kd.int .i64) 3 W w.heap.size (fun k => B2 < k) v l) :
    Calls Try.prog 41 #[v, .func (.func 43) #[] #[.pointer (some ⟨B1, 0, none⟩), .pointer (some ⟨B2, 0, none⟩)]] W fun e w' => ∃ v' : Value, e = .returned v' ∧ Kd.R (Kd.int .i64) 3 w' w.heap.size (fun k => B2 < k) v' l2 ∧ Below w.heap.size w w' := by
  unfold optFilter at hl
  by_cases hall : l.all (fun n => ((all_cl s pc n).map not).isSome) = true
  · rw [if_pos hall] at hl
    have hr := Option.some.inj hl
    have hD := del_R 43 #[.pointer (some ⟨B1, 0, none⟩), .pointer (some ⟨B2, 0, none⟩)] (fun n => !((all_cl s pc n).map not).getD false) (enters_of Try.func43 (by kernel_rfl) rfl) _ v l w W hB hR (by
      intro b hb W2 x hx hk
      have hlt2 : B2 < b := hR.1 b hb
      rw [List.all_eq_true] at hall
      obtain ⟨q, hq⟩ := Option.isSome_iff_exists.mp (hall x hx)
      obtain ⟨q0, hq0, hqq⟩ := Option.map_eq_some_iff.mp hq
      have e1 : W2.heap[B1]? = W.heap[B1]? := hk.2 _ (World.block_lt_of_cell? W _ h1) (by omega) (by simp)
      have e2 : W2.heap[B2]? = W.heap[B2]? := hk.2 _ (World.block_lt_of_cell? W _ h2) (by omega) (by simp)
      have c1 : W2.cell? ⟨B1, 0, none⟩ = some (.string s) := by rw [← h1]; unfold World.cell?; simp only [e1]
      have c2 : W2.cell? ⟨B2, 0, none⟩ = some (.int .u8 pc) := by rw [← h2]; unfold World.cell?; simp only [e2]
      refine (all_closure s pc x q0 B1 B2 W2 hq0 c1 c2).mono ?_
      rintro e w' ⟨rfl, hb2⟩
      exact ⟨by simp [hq0], hb2⟩)
    refine hD.mono ?_
    rintro e w' ⟨v', rfl, a1, a2, a3⟩
    exact ⟨v', rfl, by simpa [hr] using a1, a2⟩
  · rw [if_neg hall] at hl; cases hl

theorem cell_alloc_old (w : World) (o : Obj) {b i : Nat} (h : b < w.heap.size) : (w.alloc o).cell? ⟨b, i, none⟩ = w.cell? ⟨b, i, none⟩ := (below_alloc (Below.refl _ _) o).cell (p := ⟨b, i, none⟩) h

set_option maxHeartbeats 2000000 in
theorem reach_All.calls (a0 : ByteArray) (a1 : Int) (r : List Int) (w : World) (h : reach_All.f a0 a1 = some r) :
    Calls Try.prog 15 #[.string a0, .int .i64 a1] w fun e w' => ∃ v0_ : Value, e = .returned (v0_) ∧ Kd.R (Kd.int .i64) 3 w' w.heap.size (fun _ => True) v0_ r ∧ Below w.heap.size w w' := by
  unfold reach_All.f at h
  obtain ⟨pc, hpc, h⟩ := Option.bind_eq_some_iff.mp h
  obtain ⟨l, hl, h⟩ := Option.bind_eq_some_iff.mp h
  obtain ⟨l2, hl2, h⟩ := Option.bind_eq_some_iff.mp h
  by_cases hlen : l2.length < 4611686018427387904
  · rw [if_pos hlen] at h
    have hr := Option.some.inj h
    have HR := Lib.hid hr
    clear h hr
    have HB := Aside0.mk (below_alloc (Below.refl w.heap.size w) (.cells #[.string a0] 9))
    have hu := Try.underlying53
    go_enter Try.func15, Try.ntmps15
    go_wp2_with fail
    refine (board_At.calls _ _ _ _ hpc).mono ?_
    rintro e w1 ⟨rfl, hb1⟩
    have hB1 := Aside0.mk (below_then HB.out (below_size HB.out) hb1)
    have hz1 : w.heap.size < w1.heap.size := by have := hb1.size; simp at this; omega
    have c1 : w1.cell? ⟨w.heap.size, 0, none⟩ = some (.string a0) := (hb1.cell (p := ⟨w.heap.size, 0, none⟩) (by simp)).trans (by simp)
    clear hb1
    go_wp2_with fail
    refine (reach_view_way.calls _ _ _ _ _ _ hl).mono ?_
    rintro e w2 ⟨v2, rfl, hR2, hb2⟩
    have hs1 : (w1.alloc (Obj.cells #[Value.int IntKind.u8 pc] 5)).heap.size = w1.heap.size + 1 := by simp
    have d1 : w2.cell? ⟨w.heap.size, 0, none⟩ = some (.string a0) := (hb2.cell (p := ⟨w.heap.size, 0, none⟩) (by show w.heap.size < _; omega)).trans (by rw [cell_alloc_old _ _ hz1]; exact c1)
    have d2 : w2.cell? ⟨w1.heap.size, 0, none⟩ = some (.int .u8 pc) := (hb2.cell (p := ⟨w1.heap.size, 0, none⟩) (by show w1.heap.size < _; omega)).trans ((blk_cell (blk_new w1 _) 0).trans rfl)
    have hB2 := below_then (below_alloc hB1.out (.cells #[.int .u8 pc] 5)) (below_size (below_alloc hB1.out _)) hb2
    have hR3 : Kd.R (Kd.int .i64) 3 w2 w.heap.size (fun k => w1.heap.size < k) v2 l := Kd.R_lower (Kd.R_mono (Kd.R_bound hR2) (fun k hk => by have := hk.2.1; omega)) (by omega)
    have hD := all_delete a0 pc l l2 w.heap.size w1.heap.size w w2 v2 hl2 d1 d2 hz1 hB2 hR3
    clear hR2 hb2 hs1 d1 d2 hB2 hR3 hB1 hz1 c1 HB
    go_wp2_with fail
    refine hD.mono ?_
    rintro e w3 ⟨v3, rfl, hR4, hB4⟩
    have hS := sort_R _ v3 l2 w w3 hlen hB4 hR4
    clear hR4 hB4 hD
    go_wp2_with fail
    refine hS.mono ?_
    rintro e w4 ⟨rfl, hR5, hB5, _⟩
    have hC := compact_R _ v3 _ w w4 hB5 hR5
    clear hR5 hB5 hS
    go_wp2_with fail
    refine hC.mono ?_
    rintro e w5 ⟨v5, rfl, hR6, hB6, _⟩
    go_wp2
    go_ret
    exact ⟨_, rfl, by rw [← HR.out]; exact Kd.R_mono hR6 (fun _ _ => trivial), hB6⟩
  · rw [if_neg hlen] at h; cases h
end Go.Proofs.Ytcanbidenhcohaa.P

/- Plain law: the program's ways of all pieces, as printed. -/
namespace Go.Proofs.Ytcanbidenhcohaa.P
open Go.RowKit Go.Lib Go.Proofs.YtcanbidenhcohaaW.PrintWords Go.Proofs.YtcanbidenhcohaaW.PrintLast Go.Proofs.YtcanbidenhcohaaW.PrintMore
open Sp
set_option linter.unusedVariables false
set_option linter.unusedSimpArgs false

theorem half2 : ∀ a b : Fin 90, wrap64 (Int.tdiv (wrap64 (((a.1 : Nat) : Int) + ((b.1 : Nat) : Int))) 2) = (((a.1 + b.1) / 2 : Nat) : Int) := by decide +kernel
theorem square_f (n : Int) : board_isSquare.f n = some (decide (0 ≤ n ∧ n < 90)) := by
  unfold board_isSquare.f
  by_cases h : n ≥ 0
  · rw [if_pos h]; congr 1; simp only [decide_eq_decide]; omega
  · rw [if_neg h]; congr 1; symm; simp only [decide_eq_false_iff_not]; omega
theorem is_f (n : Int) : reach_is.f n = some (decide (0 ≤ n ∧ n < 90)) := by
  unfold reach_is.f
  by_cases h : n ≥ 0
  · rw [if_pos h]; congr 1; simp only [decide_eq_decide]; omega
  · rw [if_neg h]; congr 1; symm; simp only [decide_eq_false_iff_not]; omega
theorem file_f (n : Nat) (hn : n < 90) : board_File.f (n : Int) = some ((n % 9 : Nat) : Int) := by
  unfold board_File.f
  rw [square_f]
  simp only [Option.bind_some]
  rw [if_pos (by simp; omega), mod9 ⟨n, hn⟩]
theorem rank_f (n : Nat) (hn : n < 90) : board_Rank.f (n : Int) = some ((n / 9 : Nat) : Int) := by
  unfold board_Rank.f
  rw [square_f]
  simp only [Option.bind_some]
  rw [if_pos (by simp; omega), div9 ⟨n, hn⟩]
theorem step_f (s : ByteArray) (n : Nat) (c df dr : Int) (hn : n < 90) (h1 : -100 ≤ df ∧ df ≤ 100) (h2 : -100 ≤ dr ∧ dr ≤ 100) : reach_view_step.f s (n : Int) c df dr = some (stepN n df dr) := by
  unfold reach_view_step.f board_Square.f stepN
  rw [file_f n hn, rank_f n hn]
  simp only [Option.bind_some]
  have hf : n % 9 < 9 := Nat.mod_lt _ (by omega)
  have hr : n / 9 < 10 := by omega
  generalize n % 9 = f at *
  generalize n / 9 = r at *
  rw [wrap_small ((f : Int) + df) (by omega) (by omega), wrap_small ((r : Int) + dr) (by omega) (by omega)]
  by_cases c1 : (f : Int) + df < 0
  · rw [if_pos c1, if_neg (by omega)]; rfl
  rw [if_neg c1]
  by_cases c2 : (f : Int) + df ≥ 9
  · rw [if_pos c2, if_neg (by omega)]; rfl
  rw [if_neg c2]
  by_cases c3 : (r : Int) + dr < 0
  · rw [if_pos c3, if_neg (by omega)]; rfl
  rw [if_neg c3]
  by_cases c4 : (r : Int) + dr ≥ 10
  · rw [if_pos c4, if_neg (by omega)]; rfl
  rw [if_neg c4, if_pos (by omega), wrap_small (9 * ((r : Int) + dr)) (by omega) (by omega), wrap_small _ (by omega) (by omega)]
  rfl
theorem four_f (s : ByteArray) (n : Nat) (c df dr : Int) (hn : n < 90) (h1 : -50 ≤ df ∧ df ≤ 50) (h2 : -50 ≤ dr ∧ dr ≤ 50) :
    reach_view_four.f s (n : Int) c df dr = some [stepN n df dr, stepN n (-df) dr, stepN n df (-dr), stepN n (-df) (-dr)] := by
  unfold reach_view_four.f
  rw [wrap_small (-df) (by omega) (by omega), wrap_small (-dr) (by omega) (by omega)]
  rw [step_f s n c _ _ hn (by omega) (by omega), step_f s n c _ _ hn (by omega) (by omega), step_f s n c _ _ hn (by omega) (by omega), step_f s n c _ _ hn (by omega) (by omega)]
  rfl

theorem optFilter_some {f : Int → Option Bool} {l : List Int} (h : ∀ x ∈ l, ∃ b, f x = some b) : ∃ r, optFilter f l = some r ∧ (∀ x, x ∈ r ↔ x ∈ l ∧ f x = some true) ∧ r.length ≤ l.length := by
  refine ⟨l.filter (fun x => (f x).getD false), ?_, ?_, List.length_filter_le _ _⟩
  · unfold optFilter
    rw [if_pos]
    rw [List.all_eq_true]
    intro x hx
    obtain ⟨b, hb⟩ := h x hx
    rw [hb]; rfl
  · intro x
    rw [List.mem_filter]
    constructor
    · rintro ⟨hx, h2⟩
      obtain ⟨b, hb⟩ := h x hx
      rw [hb] at h2
      simp at h2
      subst h2
      exact ⟨hx, hb⟩
    · rintro ⟨hx, h2⟩
      exact ⟨hx, by rw [h2]; rfl⟩

theorem may_none : ∀ x ∈ letters, place_May.f ((x : Nat) : Int) (-1) = some false := by decide +kernel
theorem may_f (x : Nat) (hx : x ∈ letters) (n : Int) (hn : -1 ≤ n ∧ n < 90) : ∃ b, place_May.f (x : Int) n = some b ∧ (b = true ↔ 0 ≤ n ∧ mayN x n.toNat = true) := by
  by_cases h : n = -1
  · subst h
    exact ⟨false, may_none x hx, by simp⟩
  · have := may_all x hx ⟨n.toNat, by omega⟩
    simp only at this
    rw [show ((n.toNat : Nat) : Int) = n from by omega] at this
    exact ⟨_, this, ⟨fun h => ⟨by omega, h⟩, fun h => h.2⟩⟩
theorem allowed_f (s : ByteArray) (n : Int) (x : Nat) (hx : x ∈ letters) (l : List Int) (hl : ∀ y ∈ l, -1 ≤ y ∧ y < 90) : ∃ r, reach_view_allowed.f s n (x : Int) l = some r ∧ (∀ t : Nat, t < 90 → ((t : Int) ∈ r ↔ (t : Int) ∈ l ∧ mayN x t = true)) ∧ (∀ y ∈ r, 0 ≤ y ∧ y < 90) ∧ r.length ≤ l.length := by
  obtain ⟨r, h1, h2, h3⟩ := optFilter_some (f := place_May.f (x : Int)) (l := l) (fun y hy => by obtain ⟨b, hb, _⟩ := may_f x hx y (hl y hy); exact ⟨b, hb⟩)
  refine ⟨r, h1, fun t ht => ?_, fun y hy => ?_, h3⟩
  · rw [h2]
    obtain ⟨b, hb, hbb⟩ := may_f x hx (t : Int) (by omega)
    rw [hb]
    constructor
    · rintro ⟨a1, a2⟩
      refine ⟨a1, ?_⟩
      have := (hbb.1 (Option.some.inj a2)).2
      simpa using this
    · rintro ⟨a1, a2⟩
      exact ⟨a1, by rw [hbb.2 ⟨by omega, by simpa using a2⟩]⟩
  · obtain ⟨a1, a2⟩ := (h2 y).1 hy
    obtain ⟨b, hb, hbb⟩ := may_f x hx y (hl y a1)
    rw [hb] at a2
    have := (hbb.1 (Option.some.inj a2)).1
    exact ⟨this, (hl y a1).2⟩

/-- What a way's list owes. -/
def WayOk (c : Nat → Nat) (n : Nat) (l : List Int) : Prop := (∀ t : Nat, t < 90 → ((t : Int) ∈ l ↔ canN c n t = true)) ∧ (∀ y ∈ l, -1 ≤ y ∧ y < 90) ∧ l.length ≤ 1000

theorem general_f (s : ByteArray) (hs : isBoard s = true) (n : Nat) (hn : n < 90) (hk : kindN (cel s n) = 75) : ∃ l, reach_view_general.f s n (cel s n : Nat) = some l ∧ WayOk (cel s) n l := by
  have hr := (four_range ⟨n, hn⟩).1
  obtain ⟨r, h1, h2, h3, h4⟩ := allowed_f s n (cel s n) (board_letter hs hn) ([stepN n 1 0, stepN n (-1) 0, stepN n 1 0, stepN n (-1) 0] ++ [stepN n 0 1, stepN n 0 1, stepN n 0 (-1), stepN n 0 (-1)]) hr
  refine ⟨r, ?_, fun t ht => ?_, fun y hy => ⟨by have := (h3 y hy).1; omega, (h3 y hy).2⟩, by simp at h4; omega⟩
  · unfold reach_view_general.f
    rw [four_f s n _ 1 0 hn (by omega) (by omega)]
    simp only [Option.bind_some]
    rw [four_f s n _ 0 1 hn (by omega) (by omega)]
    simp only [Option.bind_some, Int.neg_zero]
    rw [if_pos (by simp), h1]
    rfl
  · rw [h2 t ht]
    unfold canN
    rw [if_pos hk]
    have := king_geo ⟨n, hn⟩ ⟨t, ht⟩
    simp only [kingL] at this
    simp only [List.cons_append, List.nil_append, Bool.and_eq_true, beq_iff_eq]
    rw [this]
theorem advisor_f (s : ByteArray) (hs : isBoard s = true) (n : Nat) (hn : n < 90) (hk : kindN (cel s n) = 65) : ∃ l, reach_view_advisor.f s n (cel s n : Nat) = some l ∧ WayOk (cel s) n l := by
  have hr := (four_range ⟨n, hn⟩).2.1
  obtain ⟨r, h1, h2, h3, h4⟩ := allowed_f s n (cel s n) (board_letter hs hn) _ hr
  refine ⟨r, ?_, fun t ht => ?_, fun y hy => ⟨by have := (h3 y hy).1; omega, (h3 y hy).2⟩, by simp [fourL] at h4; omega⟩
  · unfold reach_view_advisor.f
    rw [four_f s n _ 1 1 hn (by omega) (by omega)]
    simp only [Option.bind_some]
    unfold fourL at h1
    rw [h1]
    rfl
  · rw [h2 t ht]
    unfold canN
    rw [if_neg (by omega), if_pos hk]
    have := adv_geo ⟨n, hn⟩ ⟨t, ht⟩
    simp only at this
    simp only [Bool.and_eq_true, beq_iff_eq]
    rw [this]
theorem empty_f (s : ByteArray) (hs : s.size = 90) (n c m : Int) : reach_view_empty.f s n c m = some (decide (0 ≤ m ∧ m < 90) && (cel s m.toNat == 46)) := by
  unfold reach_view_empty.f
  rw [is_f]
  simp only [Option.bind_some]
  by_cases h : 0 ≤ m ∧ m < 90
  · rw [if_pos (by simpa using h), if_pos h.1, if_pos (by omega)]
    have : bt s m = ((cel s m.toNat : Nat) : Int) := by rw [← bt_cel]; congr 1; omega
    rw [this]
    congr 1
    rw [Bool.eq_iff_iff, beq_iff_eq, Bool.and_eq_true, decide_eq_true_iff, beq_iff_eq]
    constructor
    · intro h2; exact ⟨h, by omega⟩
    · intro h2; omega
  · rw [if_neg (by simpa using h)]
    simp [h]
theorem elephant_f (s : ByteArray) (hs : isBoard s = true) (n : Nat) (hn : n < 90) (hk : kindN (cel s n) = 66) : ∃ l, reach_view_elephant.f s n (cel s n : Nat) = some l ∧ WayOk (cel s) n l := by
  have hr := (four_range ⟨n, hn⟩).2.2
  obtain ⟨r, h1, h2, h3, h4⟩ := allowed_f s n (cel s n) (board_letter hs hn) _ hr
  obtain ⟨r', g1, g2, g3⟩ := optFilter_some (f := fun x => reach_view_empty.f s n (cel s n : Nat) (wrap64 (Int.tdiv (wrap64 ((n : Int) + x)) 2))) (l := r) (fun y hy => ⟨_, empty_f s (board_size hs) _ _ _⟩)
  refine ⟨r', ?_, fun t ht => ?_, fun y hy => ?_, by simp [fourL] at h4; omega⟩
  · unfold reach_view_elephant.f
    rw [four_f s n _ 2 2 hn (by omega) (by omega)]
    simp only [Option.bind_some]
    unfold fourL at h1
    rw [h1]
    simp only [Option.bind_some]
    exact g1
  · rw [g2, h2 t ht]
    have hh : wrap64 (Int.tdiv (wrap64 ((n : Int) + (t : Int))) 2) = (((n + t) / 2 : Nat) : Int) := half2 ⟨n, hn⟩ ⟨t, ht⟩
    rw [hh, empty_f s (board_size hs)]
    unfold canN
    rw [if_neg (by omega), if_neg (by omega), if_pos hk]
    have := ele_geo ⟨n, hn⟩ ⟨t, ht⟩
    simp only at this
    rw [this]
    have hd : (0 : Int) ≤ (((n + t) / 2 : Nat) : Int) ∧ (((n + t) / 2 : Nat) : Int) < 90 := by omega
    simp only [Option.some.injEq, Bool.and_eq_true, beq_iff_eq, decide_eq_true_eq, Int.toNat_natCast]
    constructor
    · rintro ⟨⟨⟨a, b⟩, c⟩, d, e⟩; exact ⟨⟨⟨a, b⟩, c⟩, e⟩
    · rintro ⟨⟨⟨a, b⟩, c⟩, e⟩; exact ⟨⟨⟨a, b⟩, c⟩, hd, e⟩
  · obtain ⟨a1, _⟩ := (g2 y).1 hy
    exact ⟨by have := (h3 y a1).1; omega, (h3 y a1).2⟩
theorem pawn_f (s : ByteArray) (hs : isBoard s = true) (n : Nat) (hn : n < 90) (hk : kindN (cel s n) = 80) : ∃ l, reach_view_pawn.f 3 s n (cel s n : Nat) = some l ∧ WayOk (cel s) n l := by
  have hc := cel_lt s n
  have hside : sideN (cel s n) = 0 ∨ sideN (cel s n) = 1 := by
    unfold kindN at hk
    unfold sideN
    split
    · exact .inl rfl
    · rename_i h1
      rw [if_neg h1] at hk
      split
      · exact .inr rfl
      · rename_i h2
        rw [if_neg h2] at hk
        omega
  have hsd := side_f (cel s n) hc
  generalize hside' : sideN (cel s n) = side at *
  obtain ⟨b, hb⟩ : ∃ b : Fin 2, side = ((b.1 : Nat) : Int) := by
    rcases hside with h | h
    · exact ⟨0, h⟩
    · exact ⟨1, h⟩
  have ho := over_all b ⟨n, hn⟩
  have hg := pawn_geo b ⟨n, hn⟩
  have hrg := pawn_range b ⟨n, hn⟩
  rw [← hb] at ho hg hrg
  simp only at ho hg hrg
  refine ⟨pawnL side n, ?_, fun t ht => ?_, hrg, ?_⟩
  · unfold reach_view_pawn.f pawnL
    rw [hsd]
    simp only [Option.bind_some]
    rw [wrap_small (2 * side) (by omega) (by omega), wrap_small (1 - 2 * side) (by omega) (by omega), step_f s n _ _ _ hn (by omega) (by omega)]
    simp only [Option.bind_some]
    rw [ho]
    simp only [Option.bind_some]
    cases overN n side with
    | true =>
      rw [if_pos rfl, step_f s n _ _ _ hn (by omega) (by omega), step_f s n _ _ _ hn (by omega) (by omega)]
      simp
    | false => rw [if_neg (by simp)]; simp
  · unfold canN
    rw [if_neg (by omega), if_neg (by omega), if_neg (by omega), if_neg (by omega), if_neg (by omega), if_neg (by omega), hside']
    exact hg ⟨t, ht⟩
  · unfold pawnL; split <;> simp
end Go.Proofs.Ytcanbidenhcohaa.P

/- Plain law: the reference's Fast, All, Can, Between, as printed, are the document's. -/
namespace Go.Proofs.Ytcanbidenhcohaa.P
open Go.RowKit Go.Lib Go.Proofs.YtcanbidenhcohaaW.PrintWords Go.Proofs.YtcanbidenhcohaaW.PrintLast Go.Proofs.YtcanbidenhcohaaW.PrintMore
open Sp
set_option linter.unusedVariables false
set_option linter.unusedSimpArgs false

theorem half_all : ∀ a b : Fin 90, wrap64 (Int.tdiv (wrap64 (((a.1 : Nat) : Int) + ((b.1 : Nat) : Int))) 2) = (((a.1 + b.1) / 2 : Nat) : Int) := by decide +kernel
theorem leg_all : ∀ a b : Fin 90, (away (a.1 % 9) (b.1 % 9) = 1 → away (a.1 / 9) (b.1 / 9) = 2 → legN a.1 b.1 < 90 ∧ ((legN a.1 b.1 = a.1 + 9 ∧ b.1 / 9 > a.1 / 9) ∨ (legN a.1 b.1 + 9 = a.1 ∧ ¬ b.1 / 9 > a.1 / 9))) ∧
    (away (a.1 % 9) (b.1 % 9) = 2 → away (a.1 / 9) (b.1 / 9) = 1 → legN a.1 b.1 < 90 ∧ ((legN a.1 b.1 = a.1 + 1 ∧ b.1 % 9 > a.1 % 9) ∨ (legN a.1 b.1 + 1 = a.1 ∧ ¬ b.1 % 9 > a.1 % 9))) := by decide +kernel
theorem half_f (s : ByteArray) (hs : s.size = 90) (p q a d g : Nat) (ha : a < 90) (hd : d ≤ 9) (hg : g < 90) (h : (g = a + d ∧ q > p) ∨ (g + d = a ∧ ¬ q > p)) : riverbankref05_half.f (p : Int) (q : Int) (a : Int) s (d : Int) = some (cel s g == 46) := by
  unfold riverbankref05_half.f
  have hb : ((bt s (g : Int)) == 46) = (cel s g == 46) := by rw [bt_cel, Bool.eq_iff_iff, beq_iff_eq, beq_iff_eq]; omega
  rcases h with ⟨h1, h2⟩ | ⟨h1, h2⟩
  · have hw : wrap64 ((a : Int) + (d : Int)) = (g : Int) := by rw [wrap_small _ (by omega) (by omega)]; omega
    rw [if_pos (by omega), hw, if_pos (by omega), if_pos (by omega), hb]
  · have hw : wrap64 ((a : Int) - (d : Int)) = (g : Int) := by rw [wrap_small _ (by omega) (by omega)]; omega
    rw [if_neg (by omega), hw, if_pos (by omega), if_pos (by omega), hb]
theorem rhorse_f (s : ByteArray) (hs : s.size = 90) (a b k : Nat) (ha : a < 90) (hb : b < 90) (hk : 1 ≤ k) : riverbankref05_horse.f k s (a : Int) (b : Int) = some (horseN (cel s) a b) := by
  obtain ⟨k, rfl⟩ : ∃ m, k = m + 1 := ⟨k - 1, by omega⟩
  have da := div9 ⟨a, ha⟩
  have db := div9 ⟨b, hb⟩
  have ma := mod9 ⟨a, ha⟩
  have mb := mod9 ⟨b, hb⟩
  obtain ⟨l1, l2⟩ := leg_all ⟨a, ha⟩ ⟨b, hb⟩
  simp only at da db ma mb l1 l2
  unfold riverbankref05_horse.f horseN
  rw [ma, mb, da, db, away_f _ _ (by omega) (by omega)]
  simp only [Option.bind_some]
  rw [away_f _ _ (by omega) (by omega)]
  simp only [Option.bind_some]
  generalize hf : away (a % 9) (b % 9) = f at *
  generalize hr : away (a / 9) (b / 9) = r at *
  by_cases f1 : f = 1
  · subst f1
    rw [if_pos (by simp)]
    by_cases r2 : r = 2
    · subst r2
      simp only [riverbankref05_horse.j0]
      rw [if_pos (by decide), da, db]
      obtain ⟨hg, h⟩ := l1 rfl rfl
      have := half_f s hs (a / 9) (b / 9) a 9 (legN a b) ha (by omega) hg h
      rw [show ((9 : Nat) : Int) = 9 from rfl] at this
      rw [this]
      simp
    · simp only [riverbankref05_horse.j0]
      rw [if_neg (by simp; omega), if_neg (by omega)]
      simp [r2]
  · rw [if_neg (by omega)]
    simp only [riverbankref05_horse.j0]
    rw [if_neg (by simp)]
    by_cases f2 : f = 2
    · subst f2
      rw [if_pos (by simp)]
      by_cases r1 : r = 1
      · subst r1
        rw [if_pos (by simp), ma, mb]
        obtain ⟨hg, h⟩ := l2 rfl rfl
        have := half_f s hs (a % 9) (b % 9) a 1 (legN a b) ha (by omega) hg h
        rw [show ((1 : Nat) : Int) = 1 from rfl] at this
        rw [this]
        simp
      · rw [if_neg (by omega)]
        simp [r1]
    · rw [if_neg (by omega)]
      simp [f1, f2]

theorem int_eq_iff (x y : Nat) : ((x : Int) = (y : Int)) ↔ x = y := by omega
theorem side01 (x : Nat) (hx : x < 256) : sideN x = -1 ∨ sideN x = 0 ∨ sideN x = 1 := by unfold sideN; split; · simp
                                                                                         · split <;> simp
theorem rpawn_f (side : Int) (h : side = 0 ∨ side = 1) (a b k : Nat) (ha : a < 90) (hb : b < 90) (hk : 1 ≤ k) : riverbankref05_pawn.f k side (a : Int) (b : Int) = some (pawnN side a b) := by
  rcases h with rfl | rfl
  · exact at_rounds (riverbankref05_pawn.mono _ _ _) hk (rpawn_all 0 ⟨a, ha⟩ ⟨b, hb⟩)
  · exact at_rounds (riverbankref05_pawn.mono _ _ _) hk (rpawn_all 1 ⟨a, ha⟩ ⟨b, hb⟩)

theorem rcan_f (s : ByteArray) (hs : isBoard s = true) (a b k : Nat) (ha : a < 90) (hb : b < 90) (hside : 0 ≤ sideN (cel s a)) (hk : 101 ≤ k) : riverbankref05_can.f k s (a : Int) (b : Int) = some (canN (cel s) a b) := by
  have hz := board_size hs
  have da := div9 ⟨a, ha⟩
  have db := div9 ⟨b, hb⟩
  have ma := mod9 ⟨a, ha⟩
  have mb := mod9 ⟨b, hb⟩
  have hh := half_all ⟨a, ha⟩ ⟨b, hb⟩
  simp only at da db ma mb hh
  have hlet := board_letter hs ha
  have hm := rmay_f (cel s a) b k hlet hb (by omega)
  have hca := cel_lt s a
  have aw1 : away (a % 9) (b % 9) ≤ 8 := by unfold away; split <;> omega
  have aw2 : away (a / 9) (b / 9) ≤ 9 := by unfold away; split <;> omega
  have hb46 : ∀ n : Nat, ((bt s (n : Int)) == 46) = (cel s n == 46) := fun n => by rw [bt_cel, Bool.eq_iff_iff, beq_iff_eq, beq_iff_eq]; omega
  have hbn46 : ∀ n : Nat, ((bt s (n : Int)) != 46) = (cel s n != 46) := fun n => by rw [bt_cel, Bool.eq_iff_iff, bne_iff_ne, bne_iff_ne]; omega
  unfold riverbankref05_can.f canN
  rw [if_pos (by omega), if_pos (by omega), ma, mb, da, db, away_f _ _ (by omega) (by omega), away_f _ _ (by omega) (by omega)]
  simp only [Option.bind_some]
  rw [wrap_small _ (by omega) (by omega), bt_cel, rkind_f _ _ hca (by omega)]
  simp only [Option.bind_some]
  have hw : (((away (a % 9) (b % 9) : Nat) : Int) + ((away (a / 9) (b / 9) : Nat) : Int) = 1) ↔ (away (a % 9) (b % 9) + away (a / 9) (b / 9) = 1) := by omega
  generalize away (a % 9) (b % 9) = f at *
  generalize away (a / 9) (b / 9) = r at *
  generalize hkk : kindN (cel s a) = kk at *
  by_cases k1 : kk = 75
  · rw [if_pos (by omega), if_pos k1, hm]
    simp only [Option.bind_some]
    by_cases h1 : f + r = 1
    · rw [if_pos (hw.mpr h1)]; simp [h1]
    · rw [if_neg (fun h => h1 (hw.mp h))]; simp [h1]
  rw [if_neg (by omega), if_neg k1]
  by_cases k2 : kk = 65
  · rw [if_pos (by omega), if_pos k2, hm]
    simp only [Option.bind_some]
    by_cases h1 : f = 1
    · rw [if_pos (by omega)]
      by_cases h2 : r = 1
      · rw [if_pos (by omega)]; simp [h1, h2]
      · rw [if_neg (by omega)]; simp [h2]
    · rw [if_neg (by omega)]; simp [h1]
  rw [if_neg (by omega), if_neg k2]
  by_cases k3 : kk = 66
  · rw [if_pos (by omega), if_pos k3, hm, hh]
    simp only [Option.bind_some]
    by_cases h1 : f = 2
    · rw [if_pos (by omega)]
      by_cases h2 : r = 2
      · rw [if_pos (by omega)]
        cases hmay : mayN (cel s a) b with
        | true =>
          rw [if_pos rfl, if_pos (by omega), if_pos (by omega), hb46]
          simp [h1, h2]
        | false => rw [if_neg (by simp)]; simp
      · rw [if_neg (by omega)]; simp [h2]
    · rw [if_neg (by omega)]; simp [h1]
  rw [if_neg (by omega), if_neg k3]
  by_cases k4 : kk = 78
  · rw [if_pos (by omega), if_pos k4, rhorse_f s hz a b k ha hb (by omega)]
    rfl
  rw [if_neg (by omega), if_neg k4]
  by_cases k5 : kk = 82
  · rw [if_pos (by omega), if_pos k5, rbetween_f s hz a b k ha hb (by omega)]
    rfl
  rw [if_neg (by omega), if_neg k5]
  by_cases k6 : kk = 67
  · rw [if_pos (by omega), if_pos k6, rbetween_f s hz a b k ha hb (by omega)]
    simp only [Option.bind_some]
    generalize betwN (cel s) a b = t
    by_cases t0 : t = 0
    · subst t0
      rw [if_pos rfl, if_pos (by omega), if_pos (by omega)]
      by_cases hc : cel s b = 46
      · rw [if_pos (by rw [bt_cel]; omega)]; simp [hc]
      · rw [if_neg (by rw [bt_cel]; omega), if_neg (by omega)]; simp [hc]
    · rw [if_neg t0]
      by_cases t1 : t = 1
      · subst t1
        rw [if_pos rfl, if_pos (by omega), if_pos (by omega), hbn46]; simp
      · rw [if_neg t1]; simp [t0, t1]
  rw [if_neg (by omega), if_neg k6, rside_f _ _ hca (by omega)]
  simp only [Option.bind_some]
  rw [rpawn_f _ (by rcases side01 _ hca with h | h | h; · omega
                    · exact .inl h
                    · exact .inr h) a b k ha hb (by omega)]
  rfl

theorem rfast_f (s : ByteArray) (hs : isBoard s = true) (a b k : Nat) (ha : a < 90) (hb : b < 90) (hk : 101 ≤ k) : riverbankref05_Fast.f k s (a : Int) (b : Int) = some (fastN (cel s) a b) := by
  have hz := board_size hs
  unfold riverbankref05_Fast.f fastN
  rw [if_pos (by omega), if_pos (by omega), bt_cel, rside_f _ _ (cel_lt s a) (by omega)]
  simp only [Option.bind_some]
  by_cases h1 : sideN (cel s a) < 0
  · rw [if_pos h1]
    have : ¬ (0 ≤ sideN (cel s a)) := by omega
    simp [this]
  · rw [if_neg h1, if_pos (by omega), if_pos (by omega), bt_cel, rside_f _ _ (cel_lt s b) (by omega)]
    simp only [Option.bind_some]
    by_cases h2 : sideN (cel s b) = sideN (cel s a)
    · rw [if_pos h2]; simp [h2]
    · rw [if_neg h2, rcan_f s hs a b k ha hb (by omega) hk]
      have : 0 ≤ sideN (cel s a) := by omega
      simp [h2, this]
end Go.Proofs.Ytcanbidenhcohaa.P

/- Plain law: the reference's Is, All, Can, Between, as printed. -/
namespace Go.Proofs.Ytcanbidenhcohaa.P
open Go.RowKit Go.Lib Go.Proofs.YtcanbidenhcohaaW.PrintWords Go.Proofs.YtcanbidenhcohaaW.PrintLast Go.Proofs.YtcanbidenhcohaaW.PrintMore
open Sp
set_option linter.unusedVariables false
set_option linter.unusedSimpArgs false

theorem side_cell : ∀ x : Fin 256, (cellB x.1 = (x.1 == 46 || decide (0 ≤ sideN x.1))) := by decide +kernel
theorem cellB_side (x : Nat) (hx : x < 256) : cellB x = (x == 46 || decide (0 ≤ sideN x)) := side_cell ⟨x, hx⟩

theorem ris_l0 (s : ByteArray) (hs : s.size = 90) (rem : Nat) : ∀ (i k : Nat), i + rem = 90 → rem + 1 < k → riverbankref02_Is.l0 k s i = some ((List.range rem).all (fun t => cellB (cel s (i + t)))) := by
  induction rem with
  | zero =>
    intro i k hi hk
    obtain ⟨k, rfl⟩ : ∃ m, k = m + 1 := ⟨k - 1, by omega⟩
    simp only [riverbankref02_Is.l0]
    rw [if_neg (by omega)]; rfl
  | succ rem ih =>
    intro i k hi hk
    obtain ⟨k, rfl⟩ : ∃ m, k = m + 1 := ⟨k - 1, by omega⟩
    have hw : wrap64 ((i : Int) + 1) = ((i + 1 : Nat) : Int) := by rw [wrap_small _ (by omega) (by omega)]; omega
    have hr : (List.range (rem + 1)).all (fun t => cellB (cel s (i + t))) = (cellB (cel s i) && (List.range rem).all (fun t => cellB (cel s (i + 1 + t)))) := by
      rw [List.range_succ_eq_map, List.all_cons, List.all_map, Nat.add_zero]
      congr 1
      congr 1
      funext t
      simp only [Function.comp, Nat.succ_eq_add_one]
      congr 2
      omega
    have i1 := ih (i + 1) k (by omega) (by omega)
    have hcb := cellB_side (cel s i) (cel_lt s i)
    simp only [riverbankref02_Is.l0]
    rw [if_pos (by omega), if_pos (by omega), if_pos (by omega), bt_cel, hr, hw, i1]
    by_cases h46 : cel s i = 46
    · rw [if_pos (by omega)]
      simp [hcb, h46, show cellB 46 = true from rfl]
    · rw [if_neg (by omega), rside_f _ _ (cel_lt s i) (by omega)]
      simp only [Option.bind_some]
      by_cases hsd : sideN (cel s i) < 0
      · rw [if_pos hsd]
        have : ¬ (0 ≤ sideN (cel s i)) := by omega
        simp [hcb, h46, this]
      · rw [if_neg hsd]
        have : 0 ≤ sideN (cel s i) := by omega
        simp [hcb, this]

theorem isBoard_all (s : ByteArray) (hs : s.size = 90) : isBoard s = (List.range 90).all (fun t => cellB (cel s t)) := by
  have hl : s.data.toList.length = 90 := by rw [Array.length_toList]; exact hs
  rw [isBoard, hs]
  simp only [beq_self_eq_true, Bool.true_and]
  rw [Bool.eq_iff_iff, List.all_eq_true, List.all_eq_true]
  have e : ∀ n (hn : n < s.data.toList.length), cel s n = (s.data.toList[n]'hn).toNat := by
    intro n hn
    unfold cel
    rw [← bt_at s (n : Int) (by omega)]
    simp only [Int.toNat_natCast]
    rw [Array.getElem_toList]
    rfl
  constructor
  · intro h n hn
    have hn' : n < s.data.toList.length := by rw [hl]; exact List.mem_range.mp hn
    rw [e n hn']
    exact h _ (List.getElem_mem hn')
  · intro h b hb
    obtain ⟨n, hn, rfl⟩ := List.getElem_of_mem hb
    rw [← e n hn]
    exact h n (List.mem_range.mpr (by omega))

theorem ris_f (s : ByteArray) (k : Nat) (hk : 92 ≤ k) : riverbankref02_Is.f k s = some (isBoard s) := by
  unfold riverbankref02_Is.f
  by_cases hs : s.size = 90
  · rw [if_pos (by omega), isBoard_all s hs]
    have := ris_l0 s hs 90 0 k (by omega) (by omega)
    simpa using this
  · rw [if_neg (by omega)]
    simp [isBoard, hs]

/-- The squares of a list, as whole numbers. -/
def ints (l : List Nat) : List Int := l.map (fun n : Nat => (n : Int))
/-- Which squares the piece on a reaches. -/
def allS (s : ByteArray) (a : Int) : List Nat := if isBoard s = true ∧ 0 ≤ a ∧ a < 90 then allN (cel s) a.toNat else []
def canS (s : ByteArray) (a b : Int) : Bool := isBoard s && decide (0 ≤ a ∧ a < 90 ∧ 0 ≤ b ∧ b < 90) && fastN (cel s) a.toNat b.toNat
def betwS (s : ByteArray) (a b : Int) : Int := if isBoard s = true ∧ 0 ≤ a ∧ a < 90 ∧ 0 ≤ b ∧ b < 90 then betwN (cel s) a.toNat b.toNat else -1

theorem rall_l0 (s : ByteArray) (hs : isBoard s = true) (a : Nat) (ha : a < 90) (rem : Nat) : ∀ (i k : Nat) (acc : List Int), i + rem = 90 → rem + 101 < k → acc.length ≤ i →
    riverbankref05_All.l0 k s a acc i = some (acc ++ ints (((List.range rem).map (fun t => i + t)).filter (fastN (cel s) a))) := by
  induction rem with
  | zero =>
    intro i k acc hi hk hacc
    obtain ⟨k, rfl⟩ : ∃ m, k = m + 1 := ⟨k - 1, by omega⟩
    simp only [riverbankref05_All.l0]
    rw [if_neg (by omega)]; simp [ints]
  | succ rem ih =>
    intro i k acc hi hk hacc
    obtain ⟨k, rfl⟩ : ∃ m, k = m + 1 := ⟨k - 1, by omega⟩
    have hw : wrap64 ((i : Int) + 1) = ((i + 1 : Nat) : Int) := by rw [wrap_small _ (by omega) (by omega)]; omega
    have hr : (List.range (rem + 1)).map (fun t => i + t) = i :: (List.range rem).map (fun t => i + 1 + t) := by
      rw [List.range_succ_eq_map, List.map_cons, List.map_map, Nat.add_zero]
      congr 1
      apply List.map_congr_left
      intro t _
      simp only [Function.comp, Nat.succ_eq_add_one]
      omega
    simp only [riverbankref05_All.l0]
    rw [if_pos (by omega), rfast_f s hs a i k ha (by omega) (by omega)]
    simp only [Option.bind_some]
    rw [hr, List.filter_cons, hw]
    cases hf : fastN (cel s) a i with
    | true =>
      rw [if_pos rfl, if_pos rfl, if_pos (by omega), ih (i + 1) k _ (by omega) (by omega) (by rw [List.length_append, List.length_singleton]; omega)]
      simp [ints]
    | false =>
      rw [if_neg (by simp), if_neg (by simp), ih (i + 1) k _ (by omega) (by omega) (by omega)]

theorem rall_f (s : ByteArray) (a : Int) (k : Nat) (hk : 200 ≤ k) : riverbankref05_All.f k s a = some (ints (allS s a)) := by
  unfold riverbankref05_All.f allS riverbankref05_real.f
  rw [ris_f s k (by omega)]
  simp only [Option.bind_some]
  obtain ⟨k, rfl⟩ : ∃ m, k = m + 1 := ⟨k - 1, by omega⟩
  cases hs : isBoard s with
  | false =>
    rw [if_neg (by simp), if_neg (by simp)]
    simp only [riverbankref05_All.j0]
    rfl
  | true =>
    rw [if_pos rfl]
    by_cases h0 : a ≥ 0
    · rw [if_pos h0]
      simp only [Option.bind_some, riverbankref05_All.j0]
      by_cases h1 : a < 90
      · rw [if_neg (by simp; omega), if_pos (by refine ⟨?_, h0, h1⟩; trivial)]
        have := rall_l0 s hs a.toNat (by omega) 90 0 k [] (by omega) (by omega) (by simp)
        rw [show ((a.toNat : Nat) : Int) = a from by omega] at this
        rw [show ((0 : Nat) : Int) = 0 from rfl] at this
        rw [this]
        simp [allN]
      · rw [if_pos (by simp; omega), if_neg (fun h => h1 h.2.2)]
        rfl
    · rw [if_neg h0]
      simp only [Option.bind_some, riverbankref05_All.j0]
      rw [if_pos (by simp), if_neg (fun h => h0 h.2.1)]
      rfl

theorem rcanS_f (s : ByteArray) (a b : Int) (k : Nat) (hk : 200 ≤ k) : riverbankref05_Can.f k s a b = some (canS s a b) := by
  unfold riverbankref05_Can.f canS riverbankref05_real.f
  rw [ris_f s k (by omega)]
  simp only [Option.bind_some]
  cases hs : isBoard s with
  | false => simp
  | true =>
    rw [if_pos rfl]
    by_cases h0 : a ≥ 0
    · rw [if_pos h0]
      by_cases h1 : a < 90
      · simp only [Option.bind_some]
        rw [if_pos (by simpa using h1)]
        by_cases h2 : b ≥ 0
        · rw [if_pos h2]
          by_cases h3 : b < 90
          · simp only [Option.bind_some]
            rw [if_pos (by simpa using h3)]
            have := rfast_f s hs a.toNat b.toNat k (by omega) (by omega) (by omega)
            rw [show ((a.toNat : Nat) : Int) = a from by omega, show ((b.toNat : Nat) : Int) = b from by omega] at this
            rw [this]
            have hd : (0 ≤ a ∧ a < 90 ∧ 0 ≤ b ∧ b < 90) := ⟨h0, h1, h2, h3⟩
            simp [hd]
          · simp only [Option.bind_some]
            rw [if_neg (by simpa using h3)]
            simp [h3]
        · rw [if_neg h2]
          have : ¬ 0 ≤ b := h2
          simp [this]
      · simp only [Option.bind_some]
        rw [if_neg (by simpa using h1)]
        simp [h1]
    · rw [if_neg h0]
      have : ¬ 0 ≤ a := h0
      simp [this]

theorem rbetwS_f (s : ByteArray) (a b : Int) (k : Nat) (hk : 200 ≤ k) : riverbankref05_Between.f k s a b = some (betwS s a b) := by
  unfold riverbankref05_Between.f betwS riverbankref05_real.f
  rw [ris_f s k (by omega)]
  simp only [Option.bind_some]
  cases hs : isBoard s with
  | false => simp
  | true =>
    rw [if_pos rfl]
    by_cases h0 : a ≥ 0
    · rw [if_pos h0]
      by_cases h1 : a < 90
      · simp only [Option.bind_some]
        rw [if_pos (by simpa using h1)]
        by_cases h2 : b ≥ 0
        · rw [if_pos h2]
          by_cases h3 : b < 90
          · simp only [Option.bind_some]
            rw [if_pos (by simpa using h3)]
            have := rbetween_f s (board_size hs) a.toNat b.toNat k (by omega) (by omega) (by omega)
            rw [show ((a.toNat : Nat) : Int) = a from by omega, show ((b.toNat : Nat) : Int) = b from by omega] at this
            rw [this, if_pos (by refine ⟨?_, h0, h1, h2, h3⟩; trivial)]
            rfl
          · simp only [Option.bind_some]
            rw [if_neg (by simpa using h3), if_neg (fun h => h3 h.2.2.2.2)]
        · rw [if_neg h2, if_neg (fun h => h2 h.2.2.2.1)]
          simp
      · simp only [Option.bind_some]
        rw [if_neg (by simpa using h1), if_neg (fun h => h1 h.2.2.1)]
    · rw [if_neg h0]
      simp only [Option.bind_some]
      rw [if_neg (by simp), if_neg (fun h => h0 h.2.1)]
end Go.Proofs.Ytcanbidenhcohaa.P

/- Plain law: the program's ways along lines and of the horse; reach.All, as printed, is the document's. -/
namespace Go.Proofs.Ytcanbidenhcohaa.P
open Go.RowKit Go.Lib Go.Proofs.YtcanbidenhcohaaW.PrintWords Go.Proofs.YtcanbidenhcohaaW.PrintLast Go.Proofs.YtcanbidenhcohaaW.PrintMore
open Sp
set_option linter.unusedVariables false
set_option linter.unusedSimpArgs false

abbrev dirL : List (S81) := [(⟨1, 0⟩ : S81), (⟨(-1), 0⟩ : S81), (⟨0, 1⟩ : S81), (⟨0, (-1)⟩ : S81)]
theorem dir_at : ∀ i : Fin 4, (rd_T81 dirL ((i.1 : Nat) : Int)).f0 = (dirs[i.1]!).1 ∧ (rd_T81 dirL ((i.1 : Nat) : Int)).f1 = (dirs[i.1]!).2 ∧ dirs[i.1]! ∈ dirs := by decide +kernel
theorem dir_small : ∀ w ∈ dirs, -1 ≤ w.1 ∧ w.1 ≤ 1 ∧ -1 ≤ w.2 ∧ w.2 ≤ 1 := by decide
theorem dir_any (p : Int × Int → Prop) : (∃ w ∈ dirs, p w) ↔ ∃ i, i < 4 ∧ p (dirs[i]!) := by
  constructor
  · rintro ⟨w, hw, hp⟩
    obtain ⟨i, hi, rfl⟩ := List.getElem_of_mem hw
    exact ⟨i, hi, by rw [getElem!_pos dirs i hi]; exact hp⟩
  · rintro ⟨i, hi, hp⟩
    exact ⟨_, (dir_at ⟨i, hi⟩).2.2, hp⟩

/-! ### the horse -/
/-- What the horse gathers one way. -/
def horseAdd (s : ByteArray) (n : Nat) (w : Int × Int) : List Int := if decide (0 ≤ stepN n w.1 w.2 ∧ stepN n w.1 w.2 < 90) && (cel s (stepN n w.1 w.2).toNat == 46) then horseL n w else []
theorem horse_round (s : ByteArray) (hs : s.size = 90) (n : Nat) (hn : n < 90) (c : Int) (i k : Nat) (hi : i < 4) (acc : List Int) (hacc : acc.length ≤ 2 * i) :
    reach_view_horse.l0 (k + 1) acc dirL 4 i s n c = reach_view_horse.l0 k (acc ++ horseAdd s n (dirs[i]!)) dirL 4 ((i + 1 : Nat) : Int) s n c := by
  obtain ⟨e0, e1, hm⟩ := dir_at ⟨i, hi⟩
  simp only at e0 e1 hm
  obtain ⟨b1, b2, b3, b4⟩ := dir_small _ hm
  have hw : wrap64 ((i : Int) + 1) = ((i + 1 : Nat) : Int) := by rw [wrap_small _ (by omega) (by omega)]; omega
  simp only [reach_view_horse.l0]
  rw [if_pos (by omega), if_pos (by omega), if_pos (by simp; omega), e0, e1, hw]
  generalize dirs[i]! = w at *
  rw [step_f s n c _ _ hn (by omega) (by omega)]
  simp only [Option.bind_some]
  rw [empty_f s hs]
  simp only [Option.bind_some]
  unfold horseAdd
  cases hb : (decide (0 ≤ stepN n w.1 w.2 ∧ stepN n w.1 w.2 < 90) && (cel s (stepN n w.1 w.2).toNat == 46)) with
  | true =>
    rw [if_pos rfl, if_pos rfl, wrap_small (2 * w.1) (by omega) (by omega), wrap_small (2 * w.2) (by omega) (by omega), wrap_small (2 * w.1 + w.2) (by omega) (by omega), wrap_small (2 * w.2 + w.1) (by omega) (by omega), wrap_small (2 * w.1 - w.2) (by omega) (by omega), wrap_small (2 * w.2 - w.1) (by omega) (by omega),
      step_f s n c _ _ hn (by omega) (by omega), step_f s n c _ _ hn (by omega) (by omega)]
    simp only [Option.bind_some]
    rw [if_pos (by simp; omega)]
    rfl
  | false => rw [if_neg (by simp), if_neg (by simp), List.append_nil]
theorem horseAdd_len (s : ByteArray) (n : Nat) (w : Int × Int) : (horseAdd s n w).length ≤ 2 := by unfold horseAdd; split <;> simp [horseL]
theorem horse_f (s : ByteArray) (hs : isBoard s = true) (n : Nat) (hn : n < 90) (hk : kindN (cel s n) = 78) (k : Nat) (h5 : 5 ≤ k) : ∃ l, reach_view_horse.f k s n (cel s n : Nat) = some l ∧ WayOk (cel s) n l := by
  obtain ⟨k, rfl⟩ : ∃ m, k = m + 5 := ⟨k - 5, by omega⟩
  have hz := board_size hs
  have l0 := horseAdd_len s n (dirs[0]!)
  have l1 := horseAdd_len s n (dirs[1]!)
  have l2 := horseAdd_len s n (dirs[2]!)
  have l3 := horseAdd_len s n (dirs[3]!)
  refine ⟨((([] ++ horseAdd s n (dirs[0]!)) ++ horseAdd s n (dirs[1]!)) ++ horseAdd s n (dirs[2]!)) ++ horseAdd s n (dirs[3]!), ?_, fun t ht => ?_, fun y hy => ?_, by simp only [List.length_append, List.length_nil]; omega⟩
  · unfold reach_view_horse.f
    simp only [Option.bind_some]
    have e4 : ((([(⟨1, 0⟩ : S81), (⟨(-1), 0⟩ : S81), (⟨0, 1⟩ : S81), (⟨0, (-1)⟩ : S81)] : List (S81)).length : Nat) : Int) = 4 := rfl
    rw [e4]
    have r0 := horse_round s hz n hn (cel s n : Nat) 0 (k + 4) (by omega) [] (by simp)
    have r1 := horse_round s hz n hn (cel s n : Nat) 1 (k + 3) (by omega) ([] ++ horseAdd s n (dirs[0]!)) (by simp only [List.length_append, List.length_nil]; omega)
    have r2 := horse_round s hz n hn (cel s n : Nat) 2 (k + 2) (by omega) (([] ++ horseAdd s n (dirs[0]!)) ++ horseAdd s n (dirs[1]!)) (by simp only [List.length_append, List.length_nil]; omega)
    have r3 := horse_round s hz n hn (cel s n : Nat) 3 (k + 1) (by omega) ((([] ++ horseAdd s n (dirs[0]!)) ++ horseAdd s n (dirs[1]!)) ++ horseAdd s n (dirs[2]!)) (by simp only [List.length_append, List.length_nil]; omega)
    refine r0.trans (r1.trans (r2.trans (r3.trans ?_)))
    simp only [reach_view_horse.l0]
    rw [if_neg (by omega)]
  · unfold canN
    rw [if_neg (by omega), if_neg (by omega), if_neg (by omega), if_pos hk]
    have hg := horse_geo ⟨n, hn⟩ ⟨t, ht⟩
    simp only at hg
    have hmem : (t : Int) ∈ ((([] ++ horseAdd s n (dirs[0]!)) ++ horseAdd s n (dirs[1]!)) ++ horseAdd s n (dirs[2]!)) ++ horseAdd s n (dirs[3]!) ↔ ∃ w ∈ dirs, (t : Int) ∈ horseAdd s n w := by
      rw [dir_any]
      simp only [List.mem_append, List.not_mem_nil, false_or]
      constructor
      · rintro (((h | h) | h) | h)
        · exact ⟨0, by omega, h⟩
        · exact ⟨1, by omega, h⟩
        · exact ⟨2, by omega, h⟩
        · exact ⟨3, by omega, h⟩
      · rintro ⟨i, hi, h⟩
        match i, hi with
        | 0, _ => exact .inl (.inl (.inl h))
        | 1, _ => exact .inl (.inl (.inr h))
        | 2, _ => exact .inl (.inr h)
        | 3, _ => exact .inr h
    rw [hmem]
    unfold horseN
    rw [show ((away (n % 9) (t % 9) == 1 && away (n / 9) (t / 9) == 2) || (away (n % 9) (t % 9) == 2 && away (n / 9) (t / 9) == 1)) = horseP n t from rfl, Bool.and_eq_true, beq_iff_eq]
    constructor
    · rintro ⟨w, hw, hm⟩
      unfold horseAdd at hm
      split at hm
      · rename_i hc
        obtain ⟨h1, h2⟩ := hg.1 w hw hm
        refine ⟨h1, ?_⟩
        simp only [Bool.and_eq_true, beq_iff_eq] at hc
        rw [h2] at hc
        simpa using hc.2
      · cases hm
    · rintro ⟨h1, h2⟩
      obtain ⟨w, hw, hm⟩ := hg.2 h1
      obtain ⟨_, h3⟩ := hg.1 w hw hm
      have hr := horse_range ⟨n, hn⟩ w hw
      refine ⟨w, hw, ?_⟩
      unfold horseAdd
      rw [if_pos]
      · exact hm
      · have := hr.2.2
        simp only at this
        rw [h3] at this ⊢
        simp [h2]; omega
  · have key : ∀ w ∈ dirs, y ∈ horseAdd s n w → -1 ≤ y ∧ y < 90 := by
      intro w hw hm
      unfold horseAdd at hm
      split at hm
      · exact (horse_range ⟨n, hn⟩ w hw).1 y hm
      · cases hm
    simp only [List.mem_append, List.not_mem_nil, false_or] at hy
    rcases hy with ((h | h) | h) | h
    · exact key _ (dir_at 0).2.2 h
    · exact key _ (dir_at 1).2.2 h
    · exact key _ (dir_at 2).2.2 h
    · exact key _ (dir_at 3).2.2 h

/-! ### lines -/
def hd (l : List Nat) : Int := match l.head? with | some x => (x : Int) | none => -1
theorem hd_eq (l : List Nat) (t : Nat) : hd l = (t : Int) ↔ l.head? = some t := by
  unfold hd
  cases l.head? with
  | none => simp
  | some x => simp; omega
theorem line_two (k : Nat) (s : ByteArray) (n c w1 w2 f g i : Int) (acc : List Int) : reach_view_line.l0 (k + 1) w1 w2 acc f g 2 i s n c = some (acc, f, g) := by
  simp only [reach_view_line.l0]; rw [if_neg (by omega)]
/-- One look at the next square. -/
theorem line_next (s : ByteArray) (hs : s.size = 90) (n : Nat) (hn : n < 90) (c : Int) (w : Int × Int) (hw : w ∈ dirs) (j k : Nat) (hj : j < 10) (acc : List Int) (f g : Int) (p : Int) (hp : p < 2) :
    reach_view_line.l0 (k + 1) w.1 w.2 acc f g p ((j + 1 : Nat) : Int) s n c =
      (match (rayN n w)[j]? with
        | none => some (acc, f, g)
        | some t => if cel s t = 46 then (if p = 0 then (if acc.length < 17592186044416 then reach_view_line.l0 k w.1 w.2 (acc ++ [(t : Int)]) f g p ((j + 1 + 1 : Nat) : Int) s n c else none) else reach_view_line.l0 k w.1 w.2 acc f g p ((j + 1 + 1 : Nat) : Int) s n c)
          else (if p = 0 then reach_view_line.l0 k w.1 w.2 acc t g 1 ((j + 1 + 1 : Nat) : Int) s n c else reach_view_line.l0 k w.1 w.2 acc f t 2 ((j + 1 + 1 : Nat) : Int) s n c)) ∨ ((rayN n w)[j]? = none ∧ j ≠ (rayN n w).length) := by
  obtain ⟨b1, b2, b3, b4⟩ := dir_small w hw
  obtain ⟨g1, g2, g3⟩ := ray_geo ⟨n, hn⟩ w hw
  have hwr : wrap64 (((j + 1 : Nat) : Int) + 1) = ((j + 1 + 1 : Nat) : Int) := by rw [wrap_small _ (by omega) (by omega)]; omega
  have m1 : ((j + 1 : Nat) : Int) * w.1 = ((j : Nat) : Int) * w.1 + w.1 := by rw [Int.natCast_add, Int.add_mul]; simp
  have m2 : ((j + 1 : Nat) : Int) * w.2 = ((j : Nat) : Int) * w.2 + w.2 := by rw [Int.natCast_add, Int.add_mul]; simp
  have r1 : -20 ≤ ((j : Nat) : Int) * w.1 + w.1 ∧ ((j : Nat) : Int) * w.1 + w.1 ≤ 20 := by
    have : w.1 = -1 ∨ w.1 = 0 ∨ w.1 = 1 := by omega
    rcases this with h | h | h <;> rw [h] <;> omega
  have r2 : -20 ≤ ((j : Nat) : Int) * w.2 + w.2 ∧ ((j : Nat) : Int) * w.2 + w.2 ≤ 20 := by
    have : w.2 = -1 ∨ w.2 = 0 ∨ w.2 = 1 := by omega
    rcases this with h | h | h <;> rw [h] <;> omega
  by_cases hlen : (rayN n w)[j]? = none ∧ j ≠ (rayN n w).length
  · exact .inr hlen
  · left
    simp only [reach_view_line.l0]
    rw [if_pos hp, m1, m2, wrap_small _ (by omega) (by omega), wrap_small _ (by omega) (by omega), step_f s n c _ _ hn (by omega) (by omega), hwr]
    simp only [Option.bind_some]
    rw [is_f]
    simp only [Option.bind_some]
    cases hr : (rayN n w)[j]? with
    | none =>
      have hj' : j = (rayN n w).length := by
        by_cases h : j = (rayN n w).length
        · exact h
        · exact absurd ⟨hr, h⟩ hlen
      have := g1 ⟨j, hj⟩ hr hj'
      simp only at this
      rw [this, if_neg (by simp)]
    | some t =>
      obtain ⟨h1, h2⟩ := g3 ⟨j, hj⟩ t (by rw [hr]; rfl)
      simp only at h1
      rw [h1, if_pos (by simp; omega), if_pos (by omega), if_pos (by omega), bt_cel]
      simp only
      by_cases hc : cel s t = 46
      · rw [if_pos (by omega), if_pos hc]
      · rw [if_neg (by omega), if_neg hc]

def em (s : ByteArray) (x : Nat) : Bool := cel s x == 46
theorem drop_cons {α : Type} {R : List α} {j : Nat} {t : α} (h : R[j]? = some t) : R.drop j = t :: R.drop (j + 1) := by
  obtain ⟨hj, rfl⟩ := List.getElem?_eq_some_iff.1 h
  exact List.drop_eq_getElem_cons hj
theorem line_one (s : ByteArray) (hs : s.size = 90) (n : Nat) (hn : n < 90) (c : Int) (w : Int × Int) (hw : w ∈ dirs) (m : Nat) : ∀ (j k : Nat) (acc : List Int) (f : Int), j + m = (rayN n w).length → m + 2 ≤ k →
    reach_view_line.l0 k w.1 w.2 acc f (-1) 1 ((j + 1 : Nat) : Int) s n c = some (acc, f, hd (((rayN n w).drop j).dropWhile (em s))) := by
  have hlen : (rayN n w).length ≤ 9 := (ray_geo ⟨n, hn⟩ w hw).2.1
  induction m with
  | zero =>
    intro j k acc f hj hk
    obtain ⟨k, rfl⟩ : ∃ m, k = m + 1 := ⟨k - 1, by omega⟩
    have hnone : (rayN n w)[j]? = none := List.getElem?_eq_none (by omega)
    rcases line_next s hs n hn c w hw j k (by omega) acc f (-1) 1 (by omega) with h | h
    · rw [h, hnone]
      simp only
      rw [List.drop_eq_nil_of_le (by omega)]
      rfl
    · exact absurd (by omega) h.2
  | succ m ih =>
    intro j k acc f hj hk
    obtain ⟨k, rfl⟩ : ∃ m, k = m + 1 := ⟨k - 1, by omega⟩
    obtain ⟨t, ht⟩ : ∃ t, (rayN n w)[j]? = some t := ⟨_, List.getElem?_eq_getElem (by omega)⟩
    rcases line_next s hs n hn c w hw j k (by omega) acc f (-1) 1 (by omega) with h | h
    · rw [h, ht]
      simp only
      rw [drop_cons ht, List.dropWhile_cons]
      by_cases hc : cel s t = 46
      · rw [if_pos hc, if_neg (by omega), if_pos (by simp [em, hc]), ih (j + 1) k acc f (by omega) (by omega)]
      · rw [if_neg hc, if_neg (by omega), if_neg (by simp [em, hc])]
        obtain ⟨k, rfl⟩ : ∃ m, k = m + 1 := ⟨k - 1, by omega⟩
        rw [line_two]
        rfl
    · rw [ht] at h; cases h.1
theorem line_zero (s : ByteArray) (hs : s.size = 90) (n : Nat) (hn : n < 90) (c : Int) (w : Int × Int) (hw : w ∈ dirs) (m : Nat) : ∀ (j k : Nat) (acc : List Int), j + m = (rayN n w).length → m + 3 ≤ k → acc.length ≤ j →
    reach_view_line.l0 k w.1 w.2 acc (-1) (-1) 0 ((j + 1 : Nat) : Int) s n c = some (acc ++ ints (((rayN n w).drop j).takeWhile (em s)), hd (((rayN n w).drop j).dropWhile (em s)), hd ((((rayN n w).drop j).dropWhile (em s)).tail.dropWhile (em s))) := by
  have hlen : (rayN n w).length ≤ 9 := (ray_geo ⟨n, hn⟩ w hw).2.1
  induction m with
  | zero =>
    intro j k acc hj hk hacc
    obtain ⟨k, rfl⟩ : ∃ m, k = m + 1 := ⟨k - 1, by omega⟩
    have hnone : (rayN n w)[j]? = none := List.getElem?_eq_none (by omega)
    rcases line_next s hs n hn c w hw j k (by omega) acc (-1) (-1) 0 (by omega) with h | h
    · rw [h, hnone]
      simp only
      rw [List.drop_eq_nil_of_le (by omega)]
      simp [ints, hd]
    · exact absurd (by omega) h.2
  | succ m ih =>
    intro j k acc hj hk hacc
    obtain ⟨k, rfl⟩ : ∃ m, k = m + 1 := ⟨k - 1, by omega⟩
    obtain ⟨t, ht⟩ : ∃ t, (rayN n w)[j]? = some t := ⟨_, List.getElem?_eq_getElem (by omega)⟩
    rcases line_next s hs n hn c w hw j k (by omega) acc (-1) (-1) 0 (by omega) with h | h
    · rw [h, ht]
      simp only
      rw [drop_cons ht, List.dropWhile_cons, List.takeWhile_cons]
      by_cases hc : cel s t = 46
      · rw [if_pos hc, if_pos trivial, if_pos (by omega), if_pos (by simp [em, hc]), if_pos (by simp [em, hc]), ih (j + 1) k _ (by omega) (by omega) (by rw [List.length_append, List.length_singleton]; omega)]
        simp [ints]
      · rw [if_neg hc, if_pos trivial, if_neg (by simp [em, hc]), if_neg (by simp [em, hc]), List.tail_cons, line_one s hs n hn c w hw m (j + 1) k _ _ (by omega) (by omega)]
        simp [ints, hd]
    · rw [ht] at h; cases h.1
theorem line_f (s : ByteArray) (hs : s.size = 90) (n : Nat) (hn : n < 90) (c : Int) (w : Int × Int) (hw : w ∈ dirs) (k : Nat) (hk : 12 ≤ k) :
    reach_view_line.f k s n c w.1 w.2 = some (ints ((rayN n w).takeWhile (em s)), hd ((rayN n w).dropWhile (em s)), hd (((rayN n w).dropWhile (em s)).tail.dropWhile (em s))) := by
  have hlen : (rayN n w).length ≤ 9 := (ray_geo ⟨n, hn⟩ w hw).2.1
  unfold reach_view_line.f
  have := line_zero s hs n hn c w hw (rayN n w).length 0 k [] (by omega) (by omega) (by simp)
  rw [List.drop_zero] at this
  simpa using this

/-- What is gathered one way. -/
def lineAdd (s : ByteArray) (n : Nat) (b : Bool) (w : Int × Int) : List Int := ints ((rayN n w).takeWhile (em s)) ++ [if b = true then hd (((rayN n w).dropWhile (em s)).tail.dropWhile (em s)) else hd ((rayN n w).dropWhile (em s))]
theorem lineAdd_len (s : ByteArray) (n : Nat) (hn : n < 90) (b : Bool) (w : Int × Int) (hw : w ∈ dirs) : (lineAdd s n b w).length ≤ 10 := by
  have hlen : (rayN n w).length ≤ 9 := (ray_geo ⟨n, hn⟩ w hw).2.1
  have := (List.takeWhile_sublist (em s) (l := rayN n w)).length_le
  simp [lineAdd, ints]; omega
theorem lines_round (s : ByteArray) (hs : s.size = 90) (n : Nat) (hn : n < 90) (c : Int) (b : Bool) (i k : Nat) (hi : i < 4) (hk : 12 ≤ k) (acc : List Int) (hacc : acc.length ≤ 10 * i) :
    reach_view_lines.l0 (k + 1) b acc dirL 4 i s n c = reach_view_lines.l0 k b (acc ++ lineAdd s n b (dirs[i]!)) dirL 4 ((i + 1 : Nat) : Int) s n c := by
  obtain ⟨e0, e1, hm⟩ := dir_at ⟨i, hi⟩
  simp only at e0 e1 hm
  have hw : wrap64 ((i : Int) + 1) = ((i + 1 : Nat) : Int) := by rw [wrap_small _ (by omega) (by omega)]; omega
  simp only [reach_view_lines.l0]
  rw [if_pos (by omega), if_pos (by omega), if_pos (by simp; omega), e0, e1, hw]
  generalize dirs[i]! = w at *
  have hl := lineAdd_len s n hn b w hm
  rw [line_f s hs n hn c w hm k hk]
  simp only [Option.bind_some]
  unfold lineAdd at hl ⊢
  rw [List.length_append, List.length_singleton] at hl
  rw [if_pos (by omega)]
  cases b with
  | true =>
    rw [if_pos rfl, if_pos (by rw [List.length_append]; omega), if_pos rfl, List.append_assoc]
  | false =>
    rw [if_neg (by simp), if_pos (by rw [List.length_append]; omega), if_neg (by simp), List.append_assoc]
theorem lines_f (s : ByteArray) (hs : s.size = 90) (n : Nat) (hn : n < 90) (c : Int) (b : Bool) (k : Nat) (hk : 20 ≤ k) : ∃ l, reach_view_lines.f k s n c b = some l ∧ (∀ x, x ∈ l ↔ ∃ w ∈ dirs, x ∈ lineAdd s n b w) ∧ l.length ≤ 40 := by
  obtain ⟨k, rfl⟩ : ∃ m, k = m + 5 := ⟨k - 5, by omega⟩
  have l0 := lineAdd_len s n hn b (dirs[0]!) (dir_at 0).2.2
  have l1 := lineAdd_len s n hn b (dirs[1]!) (dir_at 1).2.2
  have l2 := lineAdd_len s n hn b (dirs[2]!) (dir_at 2).2.2
  have l3 := lineAdd_len s n hn b (dirs[3]!) (dir_at 3).2.2
  refine ⟨((([] ++ lineAdd s n b (dirs[0]!)) ++ lineAdd s n b (dirs[1]!)) ++ lineAdd s n b (dirs[2]!)) ++ lineAdd s n b (dirs[3]!), ?_, fun x => ?_, by simp only [List.length_append, List.length_nil]; omega⟩
  · unfold reach_view_lines.f
    simp only [Option.bind_some]
    have e4 : ((([(⟨1, 0⟩ : S81), (⟨(-1), 0⟩ : S81), (⟨0, 1⟩ : S81), (⟨0, (-1)⟩ : S81)] : List (S81)).length : Nat) : Int) = 4 := rfl
    rw [e4]
    have r0 := lines_round s hs n hn c b 0 (k + 4) (by omega) (by omega) [] (by simp)
    have r1 := lines_round s hs n hn c b 1 (k + 3) (by omega) (by omega) ([] ++ lineAdd s n b (dirs[0]!)) (by simp only [List.length_append, List.length_nil]; omega)
    have r2 := lines_round s hs n hn c b 2 (k + 2) (by omega) (by omega) (([] ++ lineAdd s n b (dirs[0]!)) ++ lineAdd s n b (dirs[1]!)) (by simp only [List.length_append, List.length_nil]; omega)
    have r3 := lines_round s hs n hn c b 3 (k + 1) (by omega) (by omega) ((([] ++ lineAdd s n b (dirs[0]!)) ++ lineAdd s n b (dirs[1]!)) ++ lineAdd s n b (dirs[2]!)) (by simp only [List.length_append, List.length_nil]; omega)
    refine r0.trans (r1.trans (r2.trans (r3.trans ?_)))
    simp only [reach_view_lines.l0]
    rw [if_neg (by omega)]
  · rw [dir_any]
    simp only [List.mem_append, List.not_mem_nil, false_or]
    constructor
    · rintro (((h | h) | h) | h)
      · exact ⟨0, by omega, h⟩
      · exact ⟨1, by omega, h⟩
      · exact ⟨2, by omega, h⟩
      · exact ⟨3, by omega, h⟩
    · rintro ⟨i, hi, h⟩
      match i, hi with
      | 0, _ => exact .inl (.inl (.inl h))
      | 1, _ => exact .inl (.inl (.inr h))
      | 2, _ => exact .inl (.inr h)
      | 3, _ => exact .inr h
theorem mem_lineAdd (s : ByteArray) (n : Nat) (b : Bool) (w : Int × Int) (t : Nat) : (t : Int) ∈ lineAdd s n b w ↔ t ∈ (rayN n w).takeWhile (em s) ∨ (if b = true then (((rayN n w).dropWhile (em s)).tail.dropWhile (em s)).head? = some t else ((rayN n w).dropWhile (em s)).head? = some t) := by
  unfold lineAdd ints
  rw [List.mem_append, List.mem_map, List.mem_singleton]
  have e : (∃ a ∈ (rayN n w).takeWhile (em s), ((a : Nat) : Int) = (t : Int)) ↔ t ∈ (rayN n w).takeWhile (em s) := by
    constructor
    · rintro ⟨a, h1, h2⟩
      have : a = t := by omega
      exact this ▸ h1
    · intro h; exact ⟨t, h, rfl⟩
  rw [e]
  cases b with
  | true => rw [if_pos rfl, if_pos rfl, eq_comm, hd_eq]
  | false => rw [if_neg (by simp), if_neg (by simp), eq_comm, hd_eq]
theorem lineAdd_range (s : ByteArray) (n : Nat) (hn : n < 90) (b : Bool) (w : Int × Int) (hw : w ∈ dirs) : ∀ y ∈ lineAdd s n b w, -1 ≤ y ∧ y < 90 := by
  obtain ⟨g1, g2, g3⟩ := ray_geo ⟨n, hn⟩ w hw
  have hall : ∀ t ∈ rayN n w, t < 90 := by
    intro t ht
    obtain ⟨j, hj, rfl⟩ := List.getElem_of_mem ht
    simp only at g2
    exact (g3 ⟨j, by omega⟩ _ (by simp only; rw [List.getElem?_eq_getElem hj]; rfl)).2
  have hhd : ∀ l : List Nat, (∀ t ∈ l, t < 90) → -1 ≤ hd l ∧ hd l < 90 := by
    intro l hl
    unfold hd
    cases l with
    | nil => simp
    | cons x l => have := hl x List.mem_cons_self; simp; omega
  have hsub : ∀ t ∈ (rayN n w).dropWhile (em s), t < 90 := fun t ht => hall t ((List.dropWhile_sublist _).mem ht)
  have hsub2 : ∀ t ∈ (((rayN n w).dropWhile (em s)).tail.dropWhile (em s)), t < 90 := fun t ht => hsub t (List.mem_of_mem_tail ((List.dropWhile_sublist _).mem ht))
  intro y hy
  unfold lineAdd ints at hy
  rw [List.mem_append, List.mem_map, List.mem_singleton] at hy
  rcases hy with ⟨t, ht, rfl⟩ | rfl
  · have := hall t ((List.takeWhile_sublist _).mem ht); omega
  · split
    · exact hhd _ hsub2
    · exact hhd _ hsub
theorem betw_count (s : ByteArray) (n t : Nat) (hn : n < 90) (ht : t < 90) (v : Nat) : betwN (cel s) n t = (v : Int) ↔ ∃ w ∈ dirs, ∃ j, (rayN n w)[j]? = some t ∧ ((rayN n w).take j).countP (fun x => !em s x) = v := by
  have hcnt : ∀ l l' : List Nat, (l = l' ∨ l = l'.reverse) → l.countP (fun i => cel s i != 46) = l'.countP (fun x => !em s x) := by
    intro l l' h
    have e : (fun i => cel s i != 46) = (fun x => !em s x) := by funext x; simp [em, bne]
    rw [e]
    rcases h with rfl | rfl
    · rfl
    · exact (List.reverse_perm l').countP_eq _
  unfold betwN
  constructor
  · intro h
    by_cases h1 : n = t
    · rw [if_pos h1] at h; omega
    rw [if_neg h1] at h
    by_cases h2 : n / 9 = t / 9 ∨ n % 9 = t % 9
    · rw [if_pos h2] at h
      obtain ⟨w, hw, j, hj, hl⟩ := betw_ray ⟨n, hn⟩ ⟨t, ht⟩ ⟨h1, h2⟩
      refine ⟨w, hw, j.1, hj, ?_⟩
      rw [← hcnt _ _ hl]
      simp only; omega
    · rw [if_neg h2] at h; omega
  · rintro ⟨w, hw, j, hj, hc⟩
    have hlen : (rayN n w).length ≤ 9 := (ray_geo ⟨n, hn⟩ w hw).2.1
    have hj9 : j < 9 := by have := (List.getElem?_eq_some_iff.1 hj).1; omega
    obtain ⟨h1, h2, hl⟩ : n ≠ t ∧ (n / 9 = t / 9 ∨ n % 9 = t % 9) ∧ (betwL n t = (rayN n w).take j ∨ betwL n t = ((rayN n w).take j).reverse) := ray_betw ⟨n, hn⟩ w hw ⟨j, hj9⟩ t (by simp only; rw [hj]; rfl)
    rw [if_neg h1, if_pos h2, hcnt _ _ hl]
    omega
theorem em_true (s : ByteArray) (t : Nat) : em s t = true ↔ cel s t = 46 := by simp [em]
theorem em_false (s : ByteArray) (t : Nat) : em s t = false ↔ ¬ cel s t = 46 := by simp [em]
theorem chariot_f (s : ByteArray) (hs : isBoard s = true) (n : Nat) (hn : n < 90) (hk : kindN (cel s n) = 82) (k : Nat) (h20 : 20 ≤ k) : ∃ l, reach_view_chariot.f k s n (cel s n : Nat) = some l ∧ WayOk (cel s) n l := by
  obtain ⟨l, h1, h2, h3⟩ := lines_f s (board_size hs) n hn (cel s n : Nat) false k h20
  refine ⟨l, ?_, fun t ht => ?_, fun y hy => ?_, by omega⟩
  · unfold reach_view_chariot.f; rw [h1]; rfl
  · rw [h2]
    unfold canN
    rw [if_neg (by omega), if_neg (by omega), if_neg (by omega), if_neg (by omega), if_pos hk, beq_iff_eq]
    rw [show (betwN (cel s) n t = 0) = (betwN (cel s) n t = ((0 : Nat) : Int)) from rfl, betw_count s n t hn ht]
    constructor
    · rintro ⟨w, hw, hm⟩
      rw [mem_lineAdd, if_neg (by simp), mem_free, mem_first] at hm
      rcases hm with ⟨j, a, b, _⟩ | ⟨j, a, b, _⟩ <;> exact ⟨w, hw, j, a, b⟩
    · rintro ⟨w, hw, j, a, b⟩
      refine ⟨w, hw, ?_⟩
      rw [mem_lineAdd, if_neg (by simp), mem_free, mem_first]
      cases he : em s t with
      | true => exact .inl ⟨j, a, b, rfl⟩
      | false => exact .inr ⟨j, a, b, rfl⟩
  · obtain ⟨w, hw, hm⟩ := (h2 y).1 hy
    exact lineAdd_range s n hn false w hw y hm
theorem cannon_f (s : ByteArray) (hs : isBoard s = true) (n : Nat) (hn : n < 90) (hk : kindN (cel s n) = 67) (k : Nat) (h20 : 20 ≤ k) : ∃ l, reach_view_cannon.f k s n (cel s n : Nat) = some l ∧ WayOk (cel s) n l := by
  obtain ⟨l, h1, h2, h3⟩ := lines_f s (board_size hs) n hn (cel s n : Nat) true k h20
  refine ⟨l, ?_, fun t ht => ?_, fun y hy => ?_, by omega⟩
  · unfold reach_view_cannon.f; rw [h1]; rfl
  · rw [h2]
    unfold canN
    rw [if_neg (by omega), if_neg (by omega), if_neg (by omega), if_neg (by omega), if_neg (by omega), if_pos hk, Bool.or_eq_true, Bool.and_eq_true, Bool.and_eq_true, beq_iff_eq, beq_iff_eq, beq_iff_eq, bne_iff_ne]
    rw [show (betwN (cel s) n t = 0) = (betwN (cel s) n t = ((0 : Nat) : Int)) from rfl, show (betwN (cel s) n t = 1) = (betwN (cel s) n t = ((1 : Nat) : Int)) from rfl, betw_count s n t hn ht, betw_count s n t hn ht]
    constructor
    · rintro ⟨w, hw, hm⟩
      rw [mem_lineAdd, if_pos rfl, mem_free, mem_second] at hm
      rcases hm with ⟨j, a, b, c⟩ | ⟨j, a, b, c⟩
      · exact .inl ⟨⟨w, hw, j, a, b⟩, (em_true s t).1 c⟩
      · exact .inr ⟨⟨w, hw, j, a, b⟩, (em_false s t).1 c⟩
    · rintro (⟨⟨w, hw, j, a, b⟩, c⟩ | ⟨⟨w, hw, j, a, b⟩, c⟩)
      · refine ⟨w, hw, ?_⟩
        rw [mem_lineAdd, if_pos rfl, mem_free, mem_second]
        exact .inl ⟨j, a, b, (em_true s t).2 c⟩
      · refine ⟨w, hw, ?_⟩
        rw [mem_lineAdd, if_pos rfl, mem_free, mem_second]
        exact .inr ⟨j, a, b, (em_false s t).2 c⟩
  · obtain ⟨w, hw, hm⟩ := (h2 y).1 hy
    exact lineAdd_range s n hn true w hw y hm

/-! ### all -/
theorem kinds (x : Nat) (hx : x < 256) (h : 0 ≤ sideN x) : kindN x = 75 ∨ kindN x = 65 ∨ kindN x = 66 ∨ kindN x = 78 ∨ kindN x = 82 ∨ kindN x = 67 ∨ kindN x = 80 := by
  have : ∀ x : Fin 256, 0 ≤ sideN x.1 → kindN x.1 = 75 ∨ kindN x.1 = 65 ∨ kindN x.1 = 66 ∨ kindN x.1 = 78 ∨ kindN x.1 = 82 ∨ kindN x.1 = 67 ∨ kindN x.1 = 80 := by decide +kernel
  exact this ⟨x, hx⟩ h
theorem kind_none (x : Nat) (hx : x < 256) (h : sideN x < 0) : kindN x = 0 := by
  have : ∀ x : Fin 256, sideN x.1 < 0 → kindN x.1 = 0 := by decide +kernel
  exact this ⟨x, hx⟩ h
theorem way_f (s : ByteArray) (hs : isBoard s = true) (n : Nat) (hn : n < 90) (hside : 0 ≤ sideN (cel s n)) : ∃ l, reach_view_way.f 40 s n (cel s n : Nat) = some l ∧ WayOk (cel s) n l := by
  have hc := cel_lt s n
  unfold reach_view_way.f
  rw [kind_f _ hc]
  simp only [Option.bind_some]
  rcases kinds _ hc hside with h | h | h | h | h | h | h
  · obtain ⟨l, h1, h2⟩ := general_f s hs n hn h
    exact ⟨l, by rw [if_pos (by omega), h1]; rfl, h2⟩
  · obtain ⟨l, h1, h2⟩ := advisor_f s hs n hn h
    exact ⟨l, by rw [if_neg (by omega), if_pos (by omega), h1]; rfl, h2⟩
  · obtain ⟨l, h1, h2⟩ := elephant_f s hs n hn h
    exact ⟨l, by rw [if_neg (by omega), if_neg (by omega), if_pos (by omega), h1]; rfl, h2⟩
  · obtain ⟨l, h1, h2⟩ := horse_f s hs n hn h 40 (by omega)
    exact ⟨l, by rw [if_neg (by omega), if_neg (by omega), if_neg (by omega), if_pos (by omega), h1]; rfl, h2⟩
  · obtain ⟨l, h1, h2⟩ := chariot_f s hs n hn h 40 (by omega)
    exact ⟨l, by rw [if_neg (by omega), if_neg (by omega), if_neg (by omega), if_neg (by omega), if_pos (by omega), h1]; rfl, h2⟩
  · obtain ⟨l, h1, h2⟩ := cannon_f s hs n hn h 40 (by omega)
    exact ⟨l, by rw [if_neg (by omega), if_neg (by omega), if_neg (by omega), if_neg (by omega), if_neg (by omega), if_pos (by omega), h1]; rfl, h2⟩
  · obtain ⟨l, h1, h2⟩ := pawn_f s hs n hn h
    have h1' : reach_view_pawn.f 40 s n (cel s n : Nat) = some l := at_rounds (reach_view_pawn.mono _ _ _) (by omega) h1
    exact ⟨l, by rw [if_neg (by omega), if_neg (by omega), if_neg (by omega), if_neg (by omega), if_neg (by omega), if_neg (by omega), if_pos (by omega), h1']; rfl, h2⟩
theorem at_f (s : ByteArray) (a : Int) : board_At.f s a = some (if isBoard s = true ∧ 0 ≤ a ∧ a < 90 then ((cel s a.toNat : Nat) : Int) else 46) := by
  unfold board_At.f board_Is.f
  rw [square_f]
  simp only [Option.bind_some]
  by_cases h : 0 ≤ a ∧ a < 90
  · rw [if_pos (by simpa using h)]
    cases hb : isBoard s with
    | true =>
      have := board_size hb
      rw [if_pos rfl, if_pos h.1, if_pos (by omega), if_pos (by refine ⟨?_, h⟩; trivial), ← bt_cel]
      congr 2; omega
    | false => rw [if_neg (by simp), if_neg (by simp)]
  · rw [if_neg (by simpa using h), if_neg (fun h2 => h h2.2)]
theorem all_f (s : ByteArray) (a : Int) : reach_All.f s a = some (ints (allS s a)) := by
  unfold reach_All.f
  rw [at_f]
  simp only [Option.bind_some]
  by_cases hin : isBoard s = true ∧ 0 ≤ a ∧ a < 90
  · rw [if_pos hin]
    obtain ⟨hb, h0, h9⟩ := hin
    have han : ((a.toNat : Nat) : Int) = a := by omega
    by_cases hside : 0 ≤ sideN (cel s a.toNat)
    · obtain ⟨l, h1, hok, hrange, hlen⟩ := way_f s hb a.toNat (by omega) hside
      rw [han] at h1
      rw [h1]
      simp only [Option.bind_some]
      have hcl : ∀ x : Int, all_cl s ((cel s a.toNat : Nat) : Int) x = some (if 0 ≤ x ∧ x < 90 then (sideN (cel s x.toNat) == sideN (cel s a.toNat)) else true) := by
        intro x
        unfold all_cl
        rw [is_f]
        simp only [Option.bind_some]
        by_cases hx : 0 ≤ x ∧ x < 90
        · have hz := board_size hb
          have hbx : bt s x = ((cel s x.toNat : Nat) : Int) := by rw [← bt_cel]; congr 1; omega
          rw [if_pos (by simpa using hx), if_pos hx.1, if_pos (by omega), hbx, side_f _ (cel_lt _ _), side_f _ (cel_lt _ _), if_pos hx]
          rfl
        · rw [if_neg (by simpa using hx), if_neg hx]
      obtain ⟨r, g1, g2, g3⟩ := optFilter_some (f := fun n => (all_cl s ((cel s a.toNat : Nat) : Int) n).map not) (l := l) (fun y _ => ⟨_, by rw [hcl]; rfl⟩)
      rw [g1]
      simp only [Option.bind_some]
      rw [if_pos (by omega)]
      congr 1
      unfold allS
      rw [if_pos ⟨hb, h0, h9⟩]
      unfold allN
      apply sort_compact
      · intro y hy
        have := ((g2 y).1 hy).2
        rw [hcl] at this
        by_cases hy2 : 0 ≤ y ∧ y < 90
        · exact hy2
        · rw [if_neg hy2] at this; cases this
      · intro t ht
        rw [g2, hok t ht, hcl, if_pos (by omega)]
        unfold fastN
        simp [hside]
        constructor
        · rintro ⟨x1, x2⟩; exact ⟨x2, x1⟩
        · rintro ⟨x1, x2⟩; exact ⟨x2, x1⟩
    · have hway : reach_view_way.f 40 s a ((cel s a.toNat : Nat) : Int) = some [] := by
        unfold reach_view_way.f
        rw [kind_f _ (cel_lt _ _), kind_none _ (cel_lt _ _) (by omega)]
        rfl
      rw [hway]
      simp only [Option.bind_some]
      have : optFilter (fun n => (all_cl s ((cel s a.toNat : Nat) : Int) n).map not) [] = some [] := rfl
      rw [this]
      simp only [Option.bind_some]
      rw [if_pos (by simp), List.mergeSort_nil]
      unfold allS
      rw [if_pos ⟨hb, h0, h9⟩]
      have hnil : allN (cel s) a.toNat = [] := by
        unfold allN
        rw [List.filter_eq_nil_iff]
        intro t _
        simp [fastN, hside]
      rw [hnil]
      rfl
  · rw [if_neg hin]
    have hway : reach_view_way.f 40 s a 46 = some [] := by
      unfold reach_view_way.f
      have := kind_f 46 (by omega)
      rw [show ((46 : Nat) : Int) = 46 from rfl] at this
      rw [this]
      rfl
    rw [hway]
    simp only [Option.bind_some]
    have : optFilter (fun n => (all_cl s 46 n).map not) [] = some [] := rfl
    rw [this]
    simp only [Option.bind_some]
    rw [if_pos (by simp), List.mergeSort_nil]
    unfold allS
    rw [if_neg hin]
    rfl
end Go.Proofs.Ytcanbidenhcohaa.P

/- reach.All, in the compact base's words: out of the printed walks. -/
namespace Go.Proofs.Ytcanbidenhcohaa.K
open Go.RowKit Go.Lib Go.Proofs.YtcanbidenhcohaaW.PrintWords Go.Proofs.Ytcanbidenhcohaa.Sp
set_option linter.unusedVariables false
theorem cel_is : P.cel = cel := by
  funext s n
  unfold P.cel cel bt
  split
  · rename_i h
    simp only [Int.toNat_natCast] at h ⊢
    exact cel_get s n h
  · rename_i h
    simp only [Int.toNat_natCast] at h
    have : s.get! n = 0 := by
      obtain ⟨d⟩ := s
      show d[n]! = 0
      rw [getElem!_neg d n (by simpa [ByteArray.size] using h)]
      rfl
    rw [this]; rfl
/-- Numbers in a row that the call made, from block B on. -/
structure IntsAt (W : World) (B : Nat) (v : Value) (l : List Nat) : Prop where mk ::
  out : ∃ A cap, v = .slice A l.length cap ∧ l.length ≤ cap ∧ (l = [] ∨ ∃ g, A = some ⟨g, 0, none⟩ ∧ B ≤ g ∧ g < W.heap.size ∧ ∀ i (h : i < l.length), W.cell? ⟨g, i, none⟩ = some (.int .i64 (l[i] : Int)))
theorem IntsAt.below {W W' : World} {B : Nat} {v : Value} {l : List Nat} (h : IntsAt W B v l) (hb : Below W.heap.size W W') : IntsAt W' B v l := by
  obtain ⟨A, cap, hv, hc, h⟩ := h.out
  refine ⟨A, cap, hv, hc, ?_⟩
  rcases h with h | ⟨g, hA, hB, hg, hx⟩
  · exact .inl h
  · exact .inr ⟨g, hA, hB, Nat.lt_of_lt_of_le hg hb.size, fun i hi => (hb.cell (p := ⟨g, i, none⟩) hg).trans (hx i hi)⟩
def allS (s : ByteArray) (a : Int) : List Nat := if isBoard s = true ∧ 0 ≤ a ∧ a < 90 then allN (cel s) a.toNat else []
theorem ints_of {W : World} {B T : Nat} {ok : Nat → Prop} {v : Value} {l : List Nat} (h : Kd.R (Kd.int .i64) T W B ok v (P.ints l)) : IntsAt W B v l := by
  have ho := Kd.own_of_R h
  obtain ⟨A, c, hv, hl, _⟩ := Kd.R_reads h
  have hlen : (P.ints l).length = l.length := by simp [P.ints]
  rw [hlen] at hv hl ho
  refine ⟨A, c, hv, hl, ?_⟩
  subst hv
  obtain ⟨hx, ⟨h0, h1⟩ | ⟨g, cap, cur, h0, hb, hg, hn, hc, hs, ht⟩⟩ := ho
  · exact .inl (List.length_eq_zero_iff.1 h1)
  · simp only [Value.slice.injEq, true_and] at h0
    obtain ⟨rfl, rfl⟩ := h0
    refine .inr ⟨g, rfl, hb, ?_, ?_⟩
    · rcases Nat.lt_or_ge g W.heap.size with h | h
      · exact h
      · rw [Array.getElem?_eq_none h] at hg; cases hg
    · intro i hi
      have e : (encs (Value.int .i64) (P.ints l))[i]? = some (.int .i64 (l[i] : Int)) := by
        simp [encs, P.ints, hi]
      rw [← ht, List.getElem?_take] at e
      split at e
      · simp only [World.cell?, hg]
        simpa using e
      · cases e
theorem all_c (s : ByteArray) (a : Int) (w : World) : Calls Try.prog 15 #[.string s, .int .i64 a] w fun e w' => ∃ v, e = .returned v ∧ IntsAt w' w.heap.size v (allS s a) ∧ Below w.heap.size w w' := by
  refine (P.reach_All.calls s a _ w (P.all_f s a)).mono ?_
  rintro e w' ⟨v, rfl, h, hb⟩
  refine ⟨v, rfl, ?_, hb⟩
  have := ints_of h
  unfold P.allS at this
  rw [cel_is] at this
  exact this
end Go.Proofs.Ytcanbidenhcohaa.K
