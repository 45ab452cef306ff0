/- Walks and plain laws that several statements lean on, joined: no statement of the seat is proved here. -/
import Derived.Test.YtcanbidenhcohaaB1

/- Walks of Go functions, one Lean function and one contract for each, written by a program of this session out of the translation. -/
namespace Go.Proofs.Ytcanbidenhcohaa.P
open Go.RowKit Go.Proofs.YtcanbidenhcohaaW.PrintWords Go.Proofs.YtcanbidenhcohaaW.PrintLast Go.Proofs.YtcanbidenhcohaaW.PrintMore
attribute [local go_sem] max2_int min2_int max_two min_two max_three min_three max_four min_four   -- for this text's walks alone
set_option linter.unusedVariables false
set_option linter.unusedSimpArgs false

/-! ### riverbankref02_Side: function 38 -/
def riverbankref02_Side.j0 : Nat → Int → Bool → Option (Int)
  | 0, _, _ => none
  | k + 1, x3, x4 => if x4 = true then (some 0) else (if x3 = 107 then (some 1) else (if x3 = 97 then (some 1) else (if x3 = 98 then (some 1) else (if x3 = 110 then (some 1) else (if x3 = 114 then (some 1) else (if x3 = 99 then (some 1) else (if x3 = 112 then (some 1) else (some (-1)))))))))
def riverbankref02_Side.f (k : Nat) (a0 : Int) : Option (Int) := if a0 = 75 then (riverbankref02_Side.j0 k a0 (a0 == 75)) else (if a0 = 65 then (riverbankref02_Side.j0 k a0 (a0 == 65)) else (if a0 = 66 then (riverbankref02_Side.j0 k a0 (a0 == 66)) else (if a0 = 78 then (riverbankref02_Side.j0 k a0 (a0 == 78)) else (if a0 = 82 then (riverbankref02_Side.j0 k a0 (a0 == 82)) else (if a0 = 67 then (riverbankref02_Side.j0 k a0 (a0 == 67)) else (riverbankref02_Side.j0 k a0 (a0 == 80)))))))
theorem riverbankref02_Side.mono_l : ∀ k, (∀ y0 y1, LeO (riverbankref02_Side.j0 k y0 y1) (riverbankref02_Side.j0 (k + 1) y0 y1))
  | 0 => fun _ _ r h => by simp [riverbankref02_Side.j0] at h
  | k + 1 => by
    have ih0 := riverbankref02_Side.mono_l k
    · intro y0 y1
      unfold riverbankref02_Side.j0
      repeat' first
      | (with_reducible exact ih0 _ _)
      | (with_reducible exact LeO.refl _)
      | (with_reducible exact LeO.none _)
      | (with_reducible refine LeO.ite ?_ ?_)
      | (with_reducible refine LeO.bind ?_ (fun _ => ?_))
      | exact ih0 _ _
      | exact LeO.none _
      | refine LeO.ite ?_ ?_
      | refine LeO.bind ?_ (fun _ => ?_)
theorem riverbankref02_Side.mono : ∀ a0 k, LeO (riverbankref02_Side.f k a0) (riverbankref02_Side.f (k + 1) a0) := by
  intro a0 k
  have ih0 := riverbankref02_Side.mono_l k
  unfold riverbankref02_Side.f
  repeat' first
      | (with_reducible exact ih0 _ _)
      | (with_reducible exact LeO.refl _)
      | (with_reducible exact LeO.none _)
      | (with_reducible refine LeO.ite ?_ ?_)
      | (with_reducible refine LeO.bind ?_ (fun _ => ?_))
      | exact ih0 _ _
      | exact LeO.none _
      | refine LeO.ite ?_ ?_
      | refine LeO.bind ?_ (fun _ => ?_)
set_option maxHeartbeats 8000000 in
set_option maxRecDepth 100000 in
theorem riverbankref02_Side.calls (k : Nat) (a0 : Int) (r : Int) (w : World) (h : riverbankref02_Side.f k a0 = some r) :
    Calls Try.prog 38 #[.int .u8 a0] w fun e w' => e = .returned (.int .i64 r) ∧ Drawn0 w w' := by
  have H : (if a0 = 75 then (riverbankref02_Side.j0 k a0 (a0 == 75)) else (if a0 = 65 then (riverbankref02_Side.j0 k a0 (a0 == 65)) else (if a0 = 66 then (riverbankref02_Side.j0 k a0 (a0 == 66)) else (if a0 = 78 then (riverbankref02_Side.j0 k a0 (a0 == 78)) else (if a0 = 82 then (riverbankref02_Side.j0 k a0 (a0 == 82)) else (if a0 = 67 then (riverbankref02_Side.j0 k a0 (a0 == 67)) else (riverbankref02_Side.j0 k a0 (a0 == 80)))))))) = some r := h
  clear h
  have HC2 := Aside0.mk H
  clear H
  go_enter Try.func38, Try.ntmps38
  go_upto_if 4 with (fail)
  go_cut [4] (fun v4 wc => ∃ (kq : Nat) (x4_1 : Bool), v4 = .bool x4_1 ∧ Aside0 (riverbankref02_Side.j0 kq a0 x4_1 = some r) ∧ Aside0 (kq ≤ k) ∧ Drawn0 w wc)
  case first =>
    have H := HC2.out
    clear HC2
    by_cases c3 : a0 = 75
    · rw [if_pos c3] at H
      have c3b0 : (a0 == 75) = true := beq_iff_eq.mpr c3
      have c3b1 : (a0 != 75) = false := bne_eq_false_iff_eq.mpr c3
      clear c3
      (first | rw [c3b0] | (simp only [i64_w, i32_w]; rw [c3b0]) | skip)
      have H' := Aside0.mk H
      clear H
      go_wp2
      go_meet
      case rel => exact ⟨_, ((a0 == 75)), (by first | rfl | (simp; done) | (simp [*]; done)), H', ⟨by first | omega | exact Nat.le_refl _⟩, by repeat (first | exact Drawn0.refl _ | apply Drawn0.step)⟩
    · rw [if_neg c3] at H
      have c3b0 : (a0 == 75) = false := beq_eq_false_iff_ne.mpr c3
      have c3b1 : (a0 != 75) = true := bne_iff_ne.mpr c3
      (first | rw [c3b0] | (simp only [i64_w, i32_w]; rw [c3b0]) | skip)
      by_cases c4 : a0 = 65
      · rw [if_pos c4] at H
        have c4b0 : (a0 == 65) = true := beq_iff_eq.mpr c4
        have c4b1 : (a0 != 65) = false := bne_eq_false_iff_eq.mpr c4
        clear c4
        have H' := Aside0.mk H
        clear H
        go_wp2
        go_meet
        case rel => exact ⟨_, ((a0 == 65)), (by first | rfl | (simp; done) | (simp [*]; done)), H', ⟨by first | omega | exact Nat.le_refl _⟩, by repeat (first | exact Drawn0.refl _ | apply Drawn0.step)⟩
      · rw [if_neg c4] at H
        have c4b0 : (a0 == 65) = false := beq_eq_false_iff_ne.mpr c4
        have c4b1 : (a0 != 65) = true := bne_iff_ne.mpr c4
        by_cases c5 : a0 = 66
        · rw [if_pos c5] at H
          have c5b0 : (a0 == 66) = true := beq_iff_eq.mpr c5
          have c5b1 : (a0 != 66) = false := bne_eq_false_iff_eq.mpr c5
          clear c5
          have H' := Aside0.mk H
          clear H
          go_wp2
          go_meet
          case rel => exact ⟨_, ((a0 == 66)), (by first | rfl | (simp; done) | (simp [*]; done)), H', ⟨by first | omega | exact Nat.le_refl _⟩, by repeat (first | exact Drawn0.refl _ | apply Drawn0.step)⟩
        · rw [if_neg c5] at H
          have c5b0 : (a0 == 66) = false := beq_eq_false_iff_ne.mpr c5
          have c5b1 : (a0 != 66) = true := bne_iff_ne.mpr c5
          by_cases c6 : a0 = 78
          · rw [if_pos c6] at H
            have c6b0 : (a0 == 78) = true := beq_iff_eq.mpr c6
            have c6b1 : (a0 != 78) = false := bne_eq_false_iff_eq.mpr c6
            clear c6
            have H' := Aside0.mk H
            clear H
            go_wp2
            go_meet
            case rel => exact ⟨_, ((a0 == 78)), (by first | rfl | (simp; done) | (simp [*]; done)), H', ⟨by first | omega | exact Nat.le_refl _⟩, by repeat (first | exact Drawn0.refl _ | apply Drawn0.step)⟩
          · rw [if_neg c6] at H
            have c6b0 : (a0 == 78) = false := beq_eq_false_iff_ne.mpr c6
            have c6b1 : (a0 != 78) = true := bne_iff_ne.mpr c6
            by_cases c7 : a0 = 82
            · rw [if_pos c7] at H
              have c7b0 : (a0 == 82) = true := beq_iff_eq.mpr c7
              have c7b1 : (a0 != 82) = false := bne_eq_false_iff_eq.mpr c7
              clear c7
              have H' := Aside0.mk H
              clear H
              go_wp2
              go_meet
              case rel => exact ⟨_, ((a0 == 82)), (by first | rfl | (simp; done) | (simp [*]; done)), H', ⟨by first | omega | exact Nat.le_refl _⟩, by repeat (first | exact Drawn0.refl _ | apply Drawn0.step)⟩
            · rw [if_neg c7] at H
              have c7b0 : (a0 == 82) = false := beq_eq_false_iff_ne.mpr c7
              have c7b1 : (a0 != 82) = true := bne_iff_ne.mpr c7
              by_cases c8 : a0 = 67
              · rw [if_pos c8] at H
                have c8b0 : (a0 == 67) = true := beq_iff_eq.mpr c8
                have c8b1 : (a0 != 67) = false := bne_eq_false_iff_eq.mpr c8
                clear c8
                have H' := Aside0.mk H
                clear H
                go_wp2
                go_meet
                case rel => exact ⟨_, ((a0 == 67)), (by first | rfl | (simp; done) | (simp [*]; done)), H', ⟨by first | omega | exact Nat.le_refl _⟩, by repeat (first | exact Drawn0.refl _ | apply Drawn0.step)⟩
              · rw [if_neg c8] at H
                have c8b0 : (a0 == 67) = false := beq_eq_false_iff_ne.mpr c8
                have c8b1 : (a0 != 67) = true := bne_iff_ne.mpr c8
                have H' := Aside0.mk H
                clear H
                go_wp2
                go_meet
                case rel => exact ⟨_, ((a0 == 80)), (by first | rfl | (simp; done) | (simp [*]; done)), H', ⟨by first | omega | exact Nat.le_refl _⟩, by repeat (first | exact Drawn0.refl _ | apply Drawn0.step)⟩
  case rest =>
    clear HC2
    try clear p2
    try clear c3
    try clear c3b0
    try clear c3b1
    try clear c4
    try clear c4b0
    try clear c4b1
    try clear c5
    try clear c5b0
    try clear c5b1
    try clear c6
    try clear c6b0
    try clear c6b1
    try clear c7
    try clear c7b0
    try clear c7b1
    try clear c8
    try clear c8b0
    try clear c8b1
    obtain ⟨kq, x4_1, rfl, HA, HJ1, ⟨mc1, rfl⟩⟩ := hcut
    cases kq with
    | zero => exact absurd HA.out (by simp [riverbankref02_Side.j0])
    | succ kj1 =>
      have H := HA.out
      clear HA
      simp only [riverbankref02_Side.j0] at H
      by_cases c9 : x4_1 = true
      · subst c9
        have H1 : (some 0) = some r := by rw [if_pos rfl] at H; exact H
        clear H
        have H := H1
        clear H1
        obtain rfl := Option.some.inj H
        go_wp2
        go_ret
        exact ⟨by first | rfl | (simp; done) | (simp [*]; done), by repeat (first | exact Drawn0.refl _ | apply Drawn0.step)⟩
      · replace c9 := Bool.eq_false_iff.mpr c9
        subst c9
        have H1 : (if a0 = 107 then (some 1) else (if a0 = 97 then (some 1) else (if a0 = 98 then (some 1) else (if a0 = 110 then (some 1) else (if a0 = 114 then (some 1) else (if a0 = 99 then (some 1) else (if a0 = 112 then (some 1) else (some (-1))))))))) = some r := by rw [if_neg (show ¬ (false = true) by decide)] at H; exact H
        clear H
        have H := H1
        clear H1
        by_cases c10 : a0 = 107
        · rw [if_pos c10] at H
          have c10b0 : (a0 == 107) = true := beq_iff_eq.mpr c10
          have c10b1 : (a0 != 107) = false := bne_eq_false_iff_eq.mpr c10
          clear c10
          obtain rfl := Option.some.inj H
          go_wp2
          go_ret
          exact ⟨by first | rfl | (simp; done) | (simp [*]; done), by repeat (first | exact Drawn0.refl _ | apply Drawn0.step)⟩
        · rw [if_neg c10] at H
          have c10b0 : (a0 == 107) = false := beq_eq_false_iff_ne.mpr c10
          have c10b1 : (a0 != 107) = true := bne_iff_ne.mpr c10
          by_cases c11 : a0 = 97
          · rw [if_pos c11] at H
            have c11b0 : (a0 == 97) = true := beq_iff_eq.mpr c11
            have c11b1 : (a0 != 97) = false := bne_eq_false_iff_eq.mpr c11
            clear c11
            obtain rfl := Option.some.inj H
            go_wp2
            go_ret
            exact ⟨by first | rfl | (simp; done) | (simp [*]; done), by repeat (first | exact Drawn0.refl _ | apply Drawn0.step)⟩
          · rw [if_neg c11] at H
            have c11b0 : (a0 == 97) = false := beq_eq_false_iff_ne.mpr c11
            have c11b1 : (a0 != 97) = true := bne_iff_ne.mpr c11
            by_cases c12 : a0 = 98
            · rw [if_pos c12] at H
              have c12b0 : (a0 == 98) = true := beq_iff_eq.mpr c12
              have c12b1 : (a0 != 98) = false := bne_eq_false_iff_eq.mpr c12
              clear c12
              obtain rfl := Option.some.inj H
              go_wp2
              go_ret
              exact ⟨by first | rfl | (simp; done) | (simp [*]; done), by repeat (first | exact Drawn0.refl _ | apply Drawn0.step)⟩
            · rw [if_neg c12] at H
              have c12b0 : (a0 == 98) = false := beq_eq_false_iff_ne.mpr c12
              have c12b1 : (a0 != 98) = true := bne_iff_ne.mpr c12
              by_cases c13 : a0 = 110
              · rw [if_pos c13] at H
                have c13b0 : (a0 == 110) = true := beq_iff_eq.mpr c13
                have c13b1 : (a0 != 110) = false := bne_eq_false_iff_eq.mpr c13
                clear c13
                obtain rfl := Option.some.inj H
                go_wp2
                go_ret
                exact ⟨by first | rfl | (simp; done) | (simp [*]; done), by repeat (first | exact Drawn0.refl _ | apply Drawn0.step)⟩
              · rw [if_neg c13] at H
                have c13b0 : (a0 == 110) = false := beq_eq_false_iff_ne.mpr c13
                have c13b1 : (a0 != 110) = true := bne_iff_ne.mpr c13
                by_cases c14 : a0 = 114
                · rw [if_pos c14] at H
                  have c14b0 : (a0 == 114) = true := beq_iff_eq.mpr c14
                  have c14b1 : (a0 != 114) = false := bne_eq_false_iff_eq.mpr c14
                  clear c14
                  obtain rfl := Option.some.inj H
                  go_wp2
                  go_ret
                  exact ⟨by first | rfl | (simp; done) | (simp [*]; done), by repeat (first | exact Drawn0.refl _ | apply Drawn0.step)⟩
                · rw [if_neg c14] at H
                  have c14b0 : (a0 == 114) = false := beq_eq_false_iff_ne.mpr c14
                  have c14b1 : (a0 != 114) = true := bne_iff_ne.mpr c14
                  by_cases c15 : a0 = 99
                  · rw [if_pos c15] at H
                    have c15b0 : (a0 == 99) = true := beq_iff_eq.mpr c15
                    have c15b1 : (a0 != 99) = false := bne_eq_false_iff_eq.mpr c15
                    clear c15
                    obtain rfl := Option.some.inj H
                    go_wp2
                    go_ret
                    exact ⟨by first | rfl | (simp; done) | (simp [*]; done), by repeat (first | exact Drawn0.refl _ | apply Drawn0.step)⟩
                  · rw [if_neg c15] at H
                    have c15b0 : (a0 == 99) = false := beq_eq_false_iff_ne.mpr c15
                    have c15b1 : (a0 != 99) = true := bne_iff_ne.mpr c15
                    by_cases c16 : a0 = 112
                    · rw [if_pos c16] at H
                      have c16b0 : (a0 == 112) = true := beq_iff_eq.mpr c16
                      have c16b1 : (a0 != 112) = false := bne_eq_false_iff_eq.mpr c16
                      clear c16
                      obtain rfl := Option.some.inj H
                      go_wp2
                      go_ret
                      exact ⟨by first | rfl | (simp; done) | (simp [*]; done), by repeat (first | exact Drawn0.refl _ | apply Drawn0.step)⟩
                    · rw [if_neg c16] at H
                      have c16b0 : (a0 == 112) = false := beq_eq_false_iff_ne.mpr c16
                      have c16b1 : (a0 != 112) = true := bne_iff_ne.mpr c16
                      obtain rfl := Option.some.inj H
                      go_wp2
                      go_ret
                      exact ⟨by first | rfl | (simp; done) | (simp [*]; done), by repeat (first | exact Drawn0.refl _ | apply Drawn0.step)⟩

/-! ### riverbankref02_Is: function 47 -/
def riverbankref02_Is.l0 : Nat → ByteArray → Int → Option (Bool)
  | 0, _, _ => none
  | k + 1, x0, x3 => if x3 < 90 then (if 0 ≤ x3 then (if x3 < (x0.size : Int) then (if (bt x0 x3) = 46 then (riverbankref02_Is.l0 k x0 (wrap64 (x3 + 1))) else ((riverbankref02_Side.f k (bt x0 x3)).bind fun t259 => (if t259 < 0 then (some false) else (riverbankref02_Is.l0 k x0 (wrap64 (x3 + 1)))))) else (none)) else (none)) else (some true)
def riverbankref02_Is.f (k : Nat) (a0 : ByteArray) : Option (Bool) := if (a0.size : Int) = 90 then (riverbankref02_Is.l0 k a0 0) else (some false)
theorem riverbankref02_Is.mono_l : ∀ k, (∀ y0 y1, LeO (riverbankref02_Is.l0 k y0 y1) (riverbankref02_Is.l0 (k + 1) y0 y1))
  | 0 => fun _ _ r h => by simp [riverbankref02_Is.l0] at h
  | k + 1 => by
    have ih0 := riverbankref02_Is.mono_l k
    · intro y0 y1
      unfold riverbankref02_Is.l0
      repeat' first
      | (with_reducible exact ih0 _ _)
      | (with_reducible exact riverbankref02_Side.mono _ _)
      | (with_reducible exact LeO.refl _)
      | (with_reducible exact LeO.none _)
      | (with_reducible refine LeO.ite ?_ ?_)
      | (with_reducible refine LeO.bind ?_ (fun _ => ?_))
      | exact ih0 _ _
      | exact riverbankref02_Side.mono _ _
      | exact LeO.none _
      | refine LeO.ite ?_ ?_
      | refine LeO.bind ?_ (fun _ => ?_)
theorem riverbankref02_Is.mono : ∀ a0 k, LeO (riverbankref02_Is.f k a0) (riverbankref02_Is.f (k + 1) a0) := by
  intro a0 k
  have ih0 := riverbankref02_Is.mono_l k
  unfold riverbankref02_Is.f
  repeat' first
      | (with_reducible exact ih0 _ _)
      | (with_reducible exact riverbankref02_Side.mono _ _)
      | (with_reducible exact LeO.refl _)
      | (with_reducible exact LeO.none _)
      | (with_reducible refine LeO.ite ?_ ?_)
      | (with_reducible refine LeO.bind ?_ (fun _ => ?_))
      | exact ih0 _ _
      | exact riverbankref02_Side.mono _ _
      | exact LeO.none _
      | refine LeO.ite ?_ ?_
      | refine LeO.bind ?_ (fun _ => ?_)
set_option maxHeartbeats 8000000 in
set_option maxRecDepth 100000 in
theorem riverbankref02_Is.calls (k : Nat) (a0 : ByteArray) (r : Bool) (w : World) (h : riverbankref02_Is.f k a0 = some r) :
    Calls Try.prog 47 #[.string a0] w fun e w' => e = .returned (.bool r) ∧ Drawn0 w w' := by
  have H : (if (a0.size : Int) = 90 then (riverbankref02_Is.l0 k a0 0) else (some false)) = some r := h
  clear h
  by_cases c2 : (a0.size : Int) = 90
  · rw [if_pos c2] at H
    have c2b0 : ((a0.size : Int) == 90) = true := beq_iff_eq.mpr c2
    have c2b1 : ((a0.size : Int) != 90) = false := bne_eq_false_iff_eq.mpr c2
    clear c2
    have H' := Aside0.mk H
    clear H
    go_enter Try.func47, Try.ntmps47
    go_wp2
    go_loopg [3] k (fun kq v3 w' => ∃ (x3_1 : Int), v3 = .int .i64 x3_1 ∧ Aside0 (riverbankref02_Is.l0 kq a0 x3_1 = some r) ∧ Aside0 (kq ≤ k) ∧ Drawn0 w w')
    case atStart => exact ⟨(0), (by first | rfl | (simp; done) | (simp [*]; done)), H', ⟨Nat.le_refl _⟩, by repeat (first | exact Drawn0.refl _ | apply Drawn0.step)⟩
    case round =>
      clear H'
      try clear c2
      try clear c2b0
      try clear c2b1
      try clear p2
      obtain ⟨x3_1, rfl, HA, HK1, ⟨m1, rfl⟩⟩ := hrel
      cases gk with
      | zero => exact absurd HA.out (by simp [riverbankref02_Is.l0])
      | succ k1 =>
        have H := HA.out
        clear HA
        simp only [riverbankref02_Is.l0] at H
        by_cases c3 : x3_1 < 90
        · rw [if_pos c3] at H
          have c3b0 : decide (x3_1 < 90) = true := decide_eq_true c3
          clear c3
          by_cases c4 : 0 ≤ x3_1
          · rw [if_pos c4] at H
            have c4b0 : decide (0 ≤ x3_1) = true := decide_eq_true c4
            clear c4
            by_cases c5 : x3_1 < (a0.size : Int)
            · rw [if_pos c5] at H
              have c5b0 : decide (x3_1 < (a0.size : Int)) = true := decide_eq_true c5
              clear c5
              by_cases c7 : (bt a0 x3_1) = 46
              · rw [if_pos c7] at H
                have c7b0 : ((bt a0 x3_1) == 46) = true := beq_iff_eq.mpr c7
                have c7b1 : ((bt a0 x3_1) != 46) = false := bne_eq_false_iff_eq.mpr c7
                clear c7
                have H' := Aside0.mk H
                clear H
                have p6 : 0 ≤ (x3_1 : Int) := of_decide_eq_true (by first | (with_reducible assumption) | assumption)
                have q6 : x3_1 < (a0.size : Int) := of_decide_eq_true (by first | (with_reducible assumption) | assumption)
                have hx6 := bt_at a0 x3_1
                replace p6 := eq_true p6
                replace q6 := eq_true q6
                go_wp2
                go_roundg k1
                case measure => have := HK1.out; omega
                case rel => exact ⟨(wrap64 (x3_1 + 1)), (by first | rfl | (simp; done) | (simp [*]; done)), H', ⟨by have := HK1.out; omega⟩, by repeat (first | exact Drawn0.refl _ | apply Drawn0.step)⟩
              · rw [if_neg c7] at H
                have c7b0 : ((bt a0 x3_1) == 46) = false := beq_eq_false_iff_ne.mpr c7
                have c7b1 : ((bt a0 x3_1) != 46) = true := bne_iff_ne.mpr c7
                replace H := Option.bind_eq_some_iff.mp H
                obtain ⟨t259, A90, H⟩ := H
                replace H : (if t259 < 0 then (some false) else (riverbankref02_Is.l0 k1 a0 (wrap64 (x3_1 + 1)))) = some r := H
                have A9 := Aside0.mk A90
                clear A90
                by_cases c10 : t259 < 0
                · rw [if_pos c10] at H
                  have c10b0 : decide (t259 < 0) = true := decide_eq_true c10
                  clear c10
                  obtain rfl := Option.some.inj H
                  have p6 : 0 ≤ (x3_1 : Int) := of_decide_eq_true (by first | (with_reducible assumption) | assumption)
                  have q6 : x3_1 < (a0.size : Int) := of_decide_eq_true (by first | (with_reducible assumption) | assumption)
                  have hx6 := bt_at a0 x3_1
                  replace p6 := eq_true p6
                  replace q6 := eq_true q6
                  have p8 : 0 ≤ (x3_1 : Int) := of_decide_eq_true (by first | (with_reducible assumption) | assumption)
                  have q8 : x3_1 < (a0.size : Int) := of_decide_eq_true (by first | (with_reducible assumption) | assumption)
                  have hx8 := bt_at a0 x3_1
                  replace p8 := eq_true p8
                  replace q8 := eq_true q8
                  go_wp2_with (first | (go_at_call 38; (with_reducible refine (riverbankref02_Side.calls k1 (bt a0 x3_1) t259 _ A9.out).mono ?_); rintro e w' ⟨rfl, ⟨nd, rfl⟩⟩))
                  go_ret
                  exact ⟨by first | rfl | (simp; done) | (simp [*]; done), by repeat (first | exact Drawn0.refl _ | apply Drawn0.step)⟩
                · rw [if_neg c10] at H
                  have c10b0 : decide (t259 < 0) = false := decide_eq_false c10
                  clear c10
                  have H' := Aside0.mk H
                  clear H
                  have p6 : 0 ≤ (x3_1 : Int) := of_decide_eq_true (by first | (with_reducible assumption) | assumption)
                  have q6 : x3_1 < (a0.size : Int) := of_decide_eq_true (by first | (with_reducible assumption) | assumption)
                  have hx6 := bt_at a0 x3_1
                  replace p6 := eq_true p6
                  replace q6 := eq_true q6
                  have p8 : 0 ≤ (x3_1 : Int) := of_decide_eq_true (by first | (with_reducible assumption) | assumption)
                  have q8 : x3_1 < (a0.size : Int) := of_decide_eq_true (by first | (with_reducible assumption) | assumption)
                  have hx8 := bt_at a0 x3_1
                  replace p8 := eq_true p8
                  replace q8 := eq_true q8
                  go_wp2_with (first | (go_at_call 38; (with_reducible refine (riverbankref02_Side.calls k1 (bt a0 x3_1) t259 _ A9.out).mono ?_); rintro e w' ⟨rfl, ⟨nd, rfl⟩⟩))
                  go_roundg k1
                  case measure => have := HK1.out; omega
                  case rel => exact ⟨(wrap64 (x3_1 + 1)), (by first | rfl | (simp; done) | (simp [*]; done)), H', ⟨by have := HK1.out; omega⟩, by repeat (first | exact Drawn0.refl _ | apply Drawn0.step)⟩
            · rw [if_neg c5] at H
              exact absurd H (by simp)
          · rw [if_neg c4] at H
            exact absurd H (by simp)
        · rw [if_neg c3] at H
          have c3b0 : decide (x3_1 < 90) = false := decide_eq_false c3
          clear c3
          obtain rfl := Option.some.inj H
          go_wp2
          go_ret
          exact ⟨by first | rfl | (simp; done) | (simp [*]; done), by repeat (first | exact Drawn0.refl _ | apply Drawn0.step)⟩
  · rw [if_neg c2] at H
    have c2b0 : ((a0.size : Int) == 90) = false := beq_eq_false_iff_ne.mpr c2
    have c2b1 : ((a0.size : Int) != 90) = true := bne_iff_ne.mpr c2
    obtain rfl := Option.some.inj H
    go_enter Try.func47, Try.ntmps47
    go_wp2
    go_ret
    exact ⟨by first | rfl | (simp; done) | (simp [*]; done), by repeat (first | exact Drawn0.refl _ | apply Drawn0.step)⟩

/-! ### riverbankref05_real: function 48 -/
def riverbankref05_real.f (a0 : Int) : Option (Bool) := if a0 ≥ 0 then (some (decide (a0 < 90))) else (some false)
set_option maxHeartbeats 8000000 in
set_option maxRecDepth 100000 in
theorem riverbankref05_real.calls (a0 : Int) (r : Bool) (w : World) (h : riverbankref05_real.f a0 = some r) :
    Calls Try.prog 48 #[.int .i64 a0] w fun e w' => e = .returned (.bool r) ∧ Drawn0 w w' := by
  have H : (if a0 ≥ 0 then (some (decide (a0 < 90))) else (some false)) = some r := h
  clear h
  by_cases c2 : a0 ≥ 0
  · rw [if_pos c2] at H
    have c2b0 : decide (0 ≤ a0) = true := decide_eq_true c2
    clear c2
    obtain rfl := Option.some.inj H
    go_enter Try.func48, Try.ntmps48
    go_wp2
    go_ret
    exact ⟨by first | rfl | (simp; done) | (simp [*]; done), by repeat (first | exact Drawn0.refl _ | apply Drawn0.step)⟩
  · rw [if_neg c2] at H
    have c2b0 : decide (0 ≤ a0) = false := decide_eq_false c2
    clear c2
    obtain rfl := Option.some.inj H
    go_enter Try.func48, Try.ntmps48
    go_wp2
    go_ret
    exact ⟨by first | rfl | (simp; done) | (simp [*]; done), by repeat (first | exact Drawn0.refl _ | apply Drawn0.step)⟩

/-! ### riverbankref02_Kind: function 33 -/
def riverbankref02_Kind.f (k : Nat) (a0 : Int) : Option (Int) := (riverbankref02_Side.f k a0).bind fun t260 => (if t260 = 0 then (some a0) else (if t260 = 1 then (some ((((a0 - 97) % 256) + 65) % 256)) else (some 0)))
theorem riverbankref02_Kind.mono : ∀ a0 k, LeO (riverbankref02_Kind.f k a0) (riverbankref02_Kind.f (k + 1) a0) := by
  intro a0 k
  unfold riverbankref02_Kind.f
  repeat' first
      | (with_reducible exact riverbankref02_Side.mono _ _)
      | (with_reducible exact LeO.refl _)
      | (with_reducible exact LeO.none _)
      | (with_reducible refine LeO.ite ?_ ?_)
      | (with_reducible refine LeO.bind ?_ (fun _ => ?_))
      | exact riverbankref02_Side.mono _ _
      | exact LeO.none _
      | refine LeO.ite ?_ ?_
      | refine LeO.bind ?_ (fun _ => ?_)
set_option maxHeartbeats 8000000 in
set_option maxRecDepth 100000 in
theorem riverbankref02_Kind.calls (k : Nat) (a0 : Int) (r : Int) (w : World) (h : riverbankref02_Kind.f k a0 = some r) :
    Calls Try.prog 33 #[.int .u8 a0] w fun e w' => e = .returned (.int .u8 r) ∧ Drawn0 w w' := by
  have H : ((riverbankref02_Side.f k a0).bind fun t260 => (if t260 = 0 then (some a0) else (if t260 = 1 then (some ((((a0 - 97) % 256) + 65) % 256)) else (some 0)))) = some r := h
  clear h
  replace H := Option.bind_eq_some_iff.mp H
  obtain ⟨t260, A20, H⟩ := H
  replace H : (if t260 = 0 then (some a0) else (if t260 = 1 then (some ((((a0 - 97) % 256) + 65) % 256)) else (some 0))) = some r := H
  have A2 := Aside0.mk A20
  clear A20
  by_cases c3 : t260 = 0
  · rw [if_pos c3] at H
    have c3b0 : (t260 == 0) = true := beq_iff_eq.mpr c3
    have c3b1 : (t260 != 0) = false := bne_eq_false_iff_eq.mpr c3
    clear c3
    obtain rfl := Option.some.inj H
    go_enter Try.func33, Try.ntmps33
    go_wp2_with (first | ((with_reducible refine gate_callee (f := 38) rfl ?_); refine goesL_ (some 4) rfl rfl Try.func38 (by kernel_rfl) rfl #[.int .u8 a0] rfl (by (try simp only [List.map_toArray, List.map_cons, List.map_nil]); first | done | rfl | (simp only [List.length_drop, List.length_take]; rfl)) ?_; (with_reducible refine (riverbankref02_Side.calls k a0 t260 _ A2.out).mono ?_); rintro e w' ⟨rfl, ⟨nd, rfl⟩⟩; refine ⟨_, rfl, ?_⟩))
    go_ret
    exact ⟨by first | rfl | (simp; done) | (simp [*]; done), by repeat (first | exact Drawn0.refl _ | apply Drawn0.step)⟩
  · rw [if_neg c3] at H
    have c3b0 : (t260 == 0) = false := beq_eq_false_iff_ne.mpr c3
    have c3b1 : (t260 != 0) = true := bne_iff_ne.mpr c3
    by_cases c4 : t260 = 1
    · rw [if_pos c4] at H
      have c4b0 : (t260 == 1) = true := beq_iff_eq.mpr c4
      have c4b1 : (t260 != 1) = false := bne_eq_false_iff_eq.mpr c4
      clear c4
      obtain rfl := Option.some.inj H
      go_enter Try.func33, Try.ntmps33
      go_wp2_with (first | ((with_reducible refine gate_callee (f := 38) rfl ?_); refine goesL_ (some 4) rfl rfl Try.func38 (by kernel_rfl) rfl #[.int .u8 a0] rfl (by (try simp only [List.map_toArray, List.map_cons, List.map_nil]); first | done | rfl | (simp only [List.length_drop, List.length_take]; rfl)) ?_; (with_reducible refine (riverbankref02_Side.calls k a0 t260 _ A2.out).mono ?_); rintro e w' ⟨rfl, ⟨nd, rfl⟩⟩; refine ⟨_, rfl, ?_⟩))
      go_ret
      exact ⟨by first | rfl | (simp; done) | (simp [*]; done), by repeat (first | exact Drawn0.refl _ | apply Drawn0.step)⟩
    · rw [if_neg c4] at H
      have c4b0 : (t260 == 1) = false := beq_eq_false_iff_ne.mpr c4
      have c4b1 : (t260 != 1) = true := bne_iff_ne.mpr c4
      obtain rfl := Option.some.inj H
      go_enter Try.func33, Try.ntmps33
      go_wp2_with (first | ((with_reducible refine gate_callee (f := 38) rfl ?_); refine goesL_ (some 4) rfl rfl Try.func38 (by kernel_rfl) rfl #[.int .u8 a0] rfl (by (try simp only [List.map_toArray, List.map_cons, List.map_nil]); first | done | rfl | (simp only [List.length_drop, List.length_take]; rfl)) ?_; (with_reducible refine (riverbankref02_Side.calls k a0 t260 _ A2.out).mono ?_); rintro e w' ⟨rfl, ⟨nd, rfl⟩⟩; refine ⟨_, rfl, ?_⟩))
      go_ret
      exact ⟨by first | rfl | (simp; done) | (simp [*]; done), by repeat (first | exact Drawn0.refl _ | apply Drawn0.step)⟩

/-! ### riverbankref05_between: function 52 -/
mutual
def riverbankref05_between.j0 : Nat → ByteArray → Int → Int → Int → Option (Int)
  | 0, _, _, _, _ => none
  | k + 1, x0, x1, x2, x7 => riverbankref05_between.l0 k x0 x1 x2 x7 0 (wrap64 ((mn x1 x2) + x7))
def riverbankref05_between.l0 : Nat → ByteArray → Int → Int → Int → Int → Int → Option (Int)
  | 0, _, _, _, _, _, _ => none
  | k + 1, x0, x1, x2, x7, x8, x9 => if x9 < (mx x1 x2) then (if 0 ≤ x9 then (if x9 < (x0.size : Int) then (if (bt x0 x9) = 46 then (riverbankref05_between.l0 k x0 x1 x2 x7 x8 (wrap64 (x9 + x7))) else (riverbankref05_between.l0 k x0 x1 x2 x7 (wrap64 (x8 + 1)) (wrap64 (x9 + x7)))) else (none)) else (none)) else (some x8)
end
def riverbankref05_between.f (k : Nat) (a0 : ByteArray) (a1 : Int) (a2 : Int) : Option (Int) := if a1 = a2 then (some (-1)) else (if (wrap64 (Int.tdiv a1 9)) = (wrap64 (Int.tdiv a2 9)) then (riverbankref05_between.j0 k a0 a1 a2 1) else (if (Int.tmod a1 9) = (Int.tmod a2 9) then (riverbankref05_between.j0 k a0 a1 a2 9) else (some (-1))))
theorem riverbankref05_between.mono_l : ∀ k, (∀ y0 y1 y2 y3, LeO (riverbankref05_between.j0 k y0 y1 y2 y3) (riverbankref05_between.j0 (k + 1) y0 y1 y2 y3)) ∧ (∀ y0 y1 y2 y3 y4 y5, LeO (riverbankref05_between.l0 k y0 y1 y2 y3 y4 y5) (riverbankref05_between.l0 (k + 1) y0 y1 y2 y3 y4 y5))
  | 0 => ⟨fun _ _ _ _ r h => by simp [riverbankref05_between.j0] at h, fun _ _ _ _ _ _ r h => by simp [riverbankref05_between.l0] at h⟩
  | k + 1 => by
    obtain ⟨ih0, ih1⟩ := riverbankref05_between.mono_l k
    refine ⟨?_, ?_⟩
    · intro y0 y1 y2 y3
      unfold riverbankref05_between.j0
      repeat' first
      | (with_reducible exact ih0 _ _ _ _)
      | (with_reducible exact ih1 _ _ _ _ _ _)
      | (with_reducible exact LeO.refl _)
      | (with_reducible exact LeO.none _)
      | (with_reducible refine LeO.ite ?_ ?_)
      | (with_reducible refine LeO.bind ?_ (fun _ => ?_))
      | exact ih0 _ _ _ _
      | exact ih1 _ _ _ _ _ _
      | exact LeO.none _
      | refine LeO.ite ?_ ?_
      | refine LeO.bind ?_ (fun _ => ?_)
    · intro y0 y1 y2 y3 y4 y5
      unfold riverbankref05_between.l0
      repeat' first
      | (with_reducible exact ih0 _ _ _ _)
      | (with_reducible exact ih1 _ _ _ _ _ _)
      | (with_reducible exact LeO.refl _)
      | (with_reducible exact LeO.none _)
      | (with_reducible refine LeO.ite ?_ ?_)
      | (with_reducible refine LeO.bind ?_ (fun _ => ?_))
      | exact ih0 _ _ _ _
      | exact ih1 _ _ _ _ _ _
      | exact LeO.none _
      | refine LeO.ite ?_ ?_
      | refine LeO.bind ?_ (fun _ => ?_)
theorem riverbankref05_between.mono : ∀ a0 a1 a2 k, LeO (riverbankref05_between.f k a0 a1 a2) (riverbankref05_between.f (k + 1) a0 a1 a2) := by
  intro a0 a1 a2 k
  obtain ⟨ih0, ih1⟩ := riverbankref05_between.mono_l k
  unfold riverbankref05_between.f
  repeat' first
      | (with_reducible exact ih0 _ _ _ _)
      | (with_reducible exact ih1 _ _ _ _ _ _)
      | (with_reducible exact LeO.refl _)
      | (with_reducible exact LeO.none _)
      | (with_reducible refine LeO.ite ?_ ?_)
      | (with_reducible refine LeO.bind ?_ (fun _ => ?_))
      | exact ih0 _ _ _ _
      | exact ih1 _ _ _ _ _ _
      | exact LeO.none _
      | refine LeO.ite ?_ ?_
      | refine LeO.bind ?_ (fun _ => ?_)
set_option maxHeartbeats 8000000 in
set_option maxRecDepth 100000 in
theorem riverbankref05_between.calls (k : Nat) (a0 : ByteArray) (a1 : Int) (a2 : Int) (r : Int) (w : World) (h : riverbankref05_between.f k a0 a1 a2 = some r) :
    Calls Try.prog 52 #[.string a0, .int .i64 a1, .int .i64 a2] w fun e w' => e = .returned (.int .i64 r) ∧ Below w.heap.size w w' := by
  have HB := Aside0.mk (Below.refl w.heap.size w)
  have H : (if a1 = a2 then (some (-1)) else (if (wrap64 (Int.tdiv a1 9)) = (wrap64 (Int.tdiv a2 9)) then (riverbankref05_between.j0 k a0 a1 a2 1) else (if (Int.tmod a1 9) = (Int.tmod a2 9) then (riverbankref05_between.j0 k a0 a1 a2 9) else (some (-1))))) = some r := h
  clear h
  have HC4 := Aside0.mk H
  clear H
  go_enter Try.func52, Try.ntmps52
  go_upto_block 0 with (fail)
  go_cut [7] (fun v7 wc => ∃ (kq : Nat) (x7_3 : Int), v7 = .int .i64 x7_3 ∧ Aside0 (riverbankref05_between.j0 kq a0 a1 a2 x7_3 = some r) ∧ Aside0 (kq ≤ k) ∧ Aside0 (Below w.heap.size w wc))
  case first =>
    have H := HC4.out
    clear HC4
    by_cases c5 : a1 = a2
    · rw [if_pos c5] at H
      have c5b0 : (a1 == a2) = true := beq_iff_eq.mpr c5
      have c5b1 : (a1 != a2) = false := bne_eq_false_iff_eq.mpr c5
      clear c5
      (first | rw [c5b0] | (simp only [i64_w, i32_w]; rw [c5b0]) | skip)
      obtain rfl := Option.some.inj H
      go_wp2
      go_ret
      exact ⟨by first | rfl | (simp [errW_none, errW_some] <;> rfl) | (simp [*, errW_none, errW_some] <;> rfl), by repeat (first | (with_reducible first | exact HB.out | apply below_alloc | apply pw_below_drewN | apply below_drew1) | exact HB.out)⟩
    · rw [if_neg c5] at H
      have c5b0 : (a1 == a2) = false := beq_eq_false_iff_ne.mpr c5
      have c5b1 : (a1 != a2) = true := bne_iff_ne.mpr c5
      (first | rw [c5b0] | (simp only [i64_w, i32_w]; rw [c5b0]) | skip)
      by_cases c6 : (wrap64 (Int.tdiv a1 9)) = (wrap64 (Int.tdiv a2 9))
      · rw [if_pos c6] at H
        have c6b0 : ((wrap64 (Int.tdiv a1 9)) == (wrap64 (Int.tdiv a2 9))) = true := beq_iff_eq.mpr c6
        have c6b1 : ((wrap64 (Int.tdiv a1 9)) != (wrap64 (Int.tdiv a2 9))) = false := bne_eq_false_iff_eq.mpr c6
        clear c6
        have H' := Aside0.mk H
        clear H
        go_wp2
        go_meet
        case rel => exact ⟨_, (1), (by first | rfl | (simp; done) | (simp [*]; done)), H', ⟨by first | omega | exact Nat.le_refl _⟩, ⟨by repeat (first | (with_reducible first | exact HB.out | apply below_alloc | apply pw_below_drewN | apply below_drew1) | exact HB.out)⟩⟩
      · rw [if_neg c6] at H
        have c6b0 : ((wrap64 (Int.tdiv a1 9)) == (wrap64 (Int.tdiv a2 9))) = false := beq_eq_false_iff_ne.mpr c6
        have c6b1 : ((wrap64 (Int.tdiv a1 9)) != (wrap64 (Int.tdiv a2 9))) = true := bne_iff_ne.mpr c6
        by_cases c7 : (Int.tmod a1 9) = (Int.tmod a2 9)
        · rw [if_pos c7] at H
          have c7b0 : ((Int.tmod a1 9) == (Int.tmod a2 9)) = true := beq_iff_eq.mpr c7
          have c7b1 : ((Int.tmod a1 9) != (Int.tmod a2 9)) = false := bne_eq_false_iff_eq.mpr c7
          clear c7
          have H' := Aside0.mk H
          clear H
          go_wp2
          go_meet
          case rel => exact ⟨_, (9), (by first | rfl | (simp; done) | (simp [*]; done)), H', ⟨by first | omega | exact Nat.le_refl _⟩, ⟨by repeat (first | (with_reducible first | exact HB.out | apply below_alloc | apply pw_below_drewN | apply below_drew1) | exact HB.out)⟩⟩
        · rw [if_neg c7] at H
          have c7b0 : ((Int.tmod a1 9) == (Int.tmod a2 9)) = false := beq_eq_false_iff_ne.mpr c7
          have c7b1 : ((Int.tmod a1 9) != (Int.tmod a2 9)) = true := bne_iff_ne.mpr c7
          obtain rfl := Option.some.inj H
          go_wp2
          go_ret
          exact ⟨by first | rfl | (simp [errW_none, errW_some] <;> rfl) | (simp [*, errW_none, errW_some] <;> rfl), by repeat (first | (with_reducible first | exact HB.out | apply below_alloc | apply pw_below_drewN | apply below_drew1) | exact HB.out)⟩
  case rest =>
    clear HC4
    try clear p2
    try clear c5
    try clear c5b0
    try clear c5b1
    try clear c6
    try clear c6b0
    try clear c6b1
    try clear p6
    try clear c7
    try clear c7b0
    try clear c7b1
    obtain ⟨kq, x7_3, rfl, HA, HJ3, HB⟩ := hcut
    cases kq with
    | zero => exact absurd HA.out (by simp [riverbankref05_between.j0])
    | succ kj3 =>
      have H := HA.out
      clear HA
      simp only [riverbankref05_between.j0] at H
      obtain ⟨ji8, hji8⟩ : ∃ j_ : Int, (mn a1 a2) = j_ := ⟨_, rfl⟩
      replace H : (riverbankref05_between.l0 kj3 a0 a1 a2 x7_3 0 (wrap64 ((ji8) + x7_3))) = some r := by first | (rw [hji8] at H; exact H) | (simp only [hji8] at H ⊢; exact H)
      have hji8_ : (if a2 < a1 then a2 else a1) = ji8 := hji8
      have H' := Aside0.mk H
      clear H
      go_wp2
      go_loopg [8, 9] kj3 (fun kq v8 v9 w' => ∃ (x8_2 : Int) (x9_2 : Int), v8 = .int .i64 x8_2 ∧ v9 = .int .i64 x9_2 ∧ Aside0 (riverbankref05_between.l0 kq a0 a1 a2 x7_3 x8_2 x9_2 = some r) ∧ Aside0 (kq ≤ kj3) ∧ Aside0 (Below w.heap.size w w'))
      case atStart => exact ⟨(0), (wrap64 ((ji8) + x7_3)), (by first | rfl | (simp; done) | (simp [*]; done)), (by first | rfl | (simp; done) | (simp only [← hji8] <;> (first | rfl | simp)) | (simp [*]; done)), H', ⟨Nat.le_refl _⟩, ⟨by repeat (first | (with_reducible first | exact HB.out | apply below_alloc | apply pw_below_drewN | apply below_drew1) | exact HB.out)⟩⟩
      case round =>
        clear H'
        try clear p2
        try clear c5
        try clear c5b0
        try clear c5b1
        try clear c6
        try clear c6b0
        try clear c6b1
        try clear p6
        try clear c7
        try clear c7b0
        try clear c7b1
        try clear p2
        try clear p6
        obtain ⟨x8_2, x9_2, rfl, rfl, HA, HK2, HB⟩ := hrel
        cases gk with
        | zero => exact absurd HA.out (by simp [riverbankref05_between.l0])
        | succ k2 =>
          have H := HA.out
          clear HA
          simp only [riverbankref05_between.l0] at H
          obtain ⟨ji9, hji9⟩ : ∃ j_ : Int, (mx a1 a2) = j_ := ⟨_, rfl⟩
          replace H : (if x9_2 < (ji9) then (if 0 ≤ x9_2 then (if x9_2 < (a0.size : Int) then (if (bt a0 x9_2) = 46 then (riverbankref05_between.l0 k2 a0 a1 a2 x7_3 x8_2 (wrap64 (x9_2 + x7_3))) else (riverbankref05_between.l0 k2 a0 a1 a2 x7_3 (wrap64 (x8_2 + 1)) (wrap64 (x9_2 + x7_3)))) else (none)) else (none)) else (some x8_2)) = some r := by first | (rw [hji9] at H; exact H) | (simp only [hji9] at H ⊢; exact H)
          have hji9_ : (if a1 < a2 then a2 else a1) = ji9 := hji9
          by_cases c10 : x9_2 < (ji9)
          · rw [if_pos c10] at H
            have c10b0 : decide (x9_2 < (ji9)) = true := decide_eq_true c10
            clear c10
            by_cases c11 : 0 ≤ x9_2
            · rw [if_pos c11] at H
              have c11b0 : decide (0 ≤ x9_2) = true := decide_eq_true c11
              clear c11
              by_cases c12 : x9_2 < (a0.size : Int)
              · rw [if_pos c12] at H
                have c12b0 : decide (x9_2 < (a0.size : Int)) = true := decide_eq_true c12
                clear c12
                by_cases c14 : (bt a0 x9_2) = 46
                · rw [if_pos c14] at H
                  have c14b0 : ((bt a0 x9_2) == 46) = true := beq_iff_eq.mpr c14
                  have c14b1 : ((bt a0 x9_2) != 46) = false := bne_eq_false_iff_eq.mpr c14
                  clear c14
                  have H' := Aside0.mk H
                  clear H
                  have p13 : 0 ≤ (x9_2 : Int) := of_decide_eq_true (by first | (with_reducible assumption) | assumption)
                  have q13 : x9_2 < (a0.size : Int) := of_decide_eq_true (by first | (with_reducible assumption) | assumption)
                  have hx13 := bt_at a0 x9_2
                  replace p13 := eq_true p13
                  replace q13 := eq_true q13
                  go_wp2
                  go_roundg k2
                  case measure => have := HJ3.out; have := HK2.out; omega
                  case rel => exact ⟨(x8_2), (wrap64 (x9_2 + x7_3)), (by first | rfl | (simp; done) | (simp [*]; done)), (by first | rfl | (simp; done) | (simp [*]; done)), H', ⟨by have := HJ3.out; have := HK2.out; omega⟩, ⟨by repeat (first | (with_reducible first | exact HB.out | apply below_alloc | apply pw_below_drewN | apply below_drew1) | exact HB.out)⟩⟩
                · rw [if_neg c14] at H
                  have c14b0 : ((bt a0 x9_2) == 46) = false := beq_eq_false_iff_ne.mpr c14
                  have c14b1 : ((bt a0 x9_2) != 46) = true := bne_iff_ne.mpr c14
                  have H' := Aside0.mk H
                  clear H
                  have p13 : 0 ≤ (x9_2 : Int) := of_decide_eq_true (by first | (with_reducible assumption) | assumption)
                  have q13 : x9_2 < (a0.size : Int) := of_decide_eq_true (by first | (with_reducible assumption) | assumption)
                  have hx13 := bt_at a0 x9_2
                  replace p13 := eq_true p13
                  replace q13 := eq_true q13
                  go_wp2
                  go_roundg k2
                  case measure => have := HJ3.out; have := HK2.out; omega
                  case rel => exact ⟨(wrap64 (x8_2 + 1)), (wrap64 (x9_2 + x7_3)), (by first | rfl | (simp; done) | (simp [*]; done)), (by first | rfl | (simp; done) | (simp [*]; done)), H', ⟨by have := HJ3.out; have := HK2.out; omega⟩, ⟨by repeat (first | (with_reducible first | exact HB.out | apply below_alloc | apply pw_below_drewN | apply below_drew1) | exact HB.out)⟩⟩
              · rw [if_neg c12] at H
                exact absurd H (by simp)
            · rw [if_neg c11] at H
              exact absurd H (by simp)
          · rw [if_neg c10] at H
            have c10b0 : decide (x9_2 < (ji9)) = false := decide_eq_false c10
            clear c10
            obtain rfl := Option.some.inj H
            go_wp2
            go_ret
            exact ⟨by first | rfl | (simp [errW_none, errW_some] <;> rfl) | (simp only [← hji8, ← hji9]; first | rfl | (simp [errW_none, errW_some] <;> rfl)) | (simp [*, errW_none, errW_some] <;> rfl), by repeat (first | (with_reducible first | exact HB.out | apply below_alloc | apply pw_below_drewN | apply below_drew1) | exact HB.out)⟩

/-! ### riverbankref03_real: function 84 -/
def riverbankref03_real.f (a0 : Int) (a1 : Int) : Option (Bool) := if a0 ≥ 0 then (if a0 < 90 then (if a1 = 0 then (some true) else (some (a1 == 1))) else (some false)) else (some false)
set_option maxHeartbeats 8000000 in
set_option maxRecDepth 100000 in
theorem riverbankref03_real.calls (a0 : Int) (a1 : Int) (r : Bool) (w : World) (h : riverbankref03_real.f a0 a1 = some r) :
    Calls Try.prog 84 #[.int .i64 a0, .int .i64 a1] w fun e w' => e = .returned (.bool r) ∧ Drawn0 w w' := by
  have H : (if a0 ≥ 0 then (if a0 < 90 then (if a1 = 0 then (some true) else (some (a1 == 1))) else (some false)) else (some false)) = some r := h
  clear h
  by_cases c3 : a0 ≥ 0
  · rw [if_pos c3] at H
    have c3b0 : decide (0 ≤ a0) = true := decide_eq_true c3
    clear c3
    by_cases c4 : a0 < 90
    · rw [if_pos c4] at H
      have c4b0 : decide (a0 < 90) = true := decide_eq_true c4
      clear c4
      by_cases c5 : a1 = 0
      · rw [if_pos c5] at H
        have c5b0 : (a1 == 0) = true := beq_iff_eq.mpr c5
        have c5b1 : (a1 != 0) = false := bne_eq_false_iff_eq.mpr c5
        clear c5
        obtain rfl := Option.some.inj H
        go_enter Try.func84, Try.ntmps84
        go_wp2
        go_ret
        exact ⟨by first | rfl | (simp; done) | (simp [*]; done), by repeat (first | exact Drawn0.refl _ | apply Drawn0.step)⟩
      · rw [if_neg c5] at H
        have c5b0 : (a1 == 0) = false := beq_eq_false_iff_ne.mpr c5
        have c5b1 : (a1 != 0) = true := bne_iff_ne.mpr c5
        obtain rfl := Option.some.inj H
        go_enter Try.func84, Try.ntmps84
        go_wp2
        go_ret
        exact ⟨by first | rfl | (simp; done) | (simp [*]; done), by repeat (first | exact Drawn0.refl _ | apply Drawn0.step)⟩
    · rw [if_neg c4] at H
      have c4b0 : decide (a0 < 90) = false := decide_eq_false c4
      clear c4
      obtain rfl := Option.some.inj H
      go_enter Try.func84, Try.ntmps84
      go_wp2
      go_ret
      exact ⟨by first | rfl | (simp; done) | (simp [*]; done), by repeat (first | exact Drawn0.refl _ | apply Drawn0.step)⟩
  · rw [if_neg c3] at H
    have c3b0 : decide (0 ≤ a0) = false := decide_eq_false c3
    clear c3
    obtain rfl := Option.some.inj H
    go_enter Try.func84, Try.ntmps84
    go_wp2
    go_ret
    exact ⟨by first | rfl | (simp; done) | (simp [*]; done), by repeat (first | exact Drawn0.refl _ | apply Drawn0.step)⟩

/-! ### riverbankref02_File: function 85 -/
def riverbankref02_File.f (a0 : Int) : Option (Int) := if a0 < 0 then (some (-1)) else (if a0 > 89 then (some (-1)) else (some (Int.tmod a0 9)))
set_option maxHeartbeats 8000000 in
set_option maxRecDepth 100000 in
theorem riverbankref02_File.calls (a0 : Int) (r : Int) (w : World) (h : riverbankref02_File.f a0 = some r) :
    Calls Try.prog 85 #[.int .i64 a0] w fun e w' => e = .returned (.int .i64 r) ∧ Drawn0 w w' := by
  have H : (if a0 < 0 then (some (-1)) else (if a0 > 89 then (some (-1)) else (some (Int.tmod a0 9)))) = some r := h
  clear h
  by_cases c2 : a0 < 0
  · rw [if_pos c2] at H
    have c2b0 : decide (a0 < 0) = true := decide_eq_true c2
    clear c2
    obtain rfl := Option.some.inj H
    go_enter Try.func85, Try.ntmps85
    go_wp2
    go_ret
    exact ⟨by first | rfl | (simp; done) | (simp [*]; done), by repeat (first | exact Drawn0.refl _ | apply Drawn0.step)⟩
  · rw [if_neg c2] at H
    have c2b0 : decide (a0 < 0) = false := decide_eq_false c2
    clear c2
    by_cases c3 : a0 > 89
    · rw [if_pos c3] at H
      have c3b0 : decide (89 < a0) = true := decide_eq_true c3
      clear c3
      obtain rfl := Option.some.inj H
      go_enter Try.func85, Try.ntmps85
      go_wp2
      go_ret
      exact ⟨by first | rfl | (simp; done) | (simp [*]; done), by repeat (first | exact Drawn0.refl _ | apply Drawn0.step)⟩
    · rw [if_neg c3] at H
      have c3b0 : decide (89 < a0) = false := decide_eq_false c3
      clear c3
      obtain rfl := Option.some.inj H
      go_enter Try.func85, Try.ntmps85
      go_wp2
      go_ret
      exact ⟨by first | rfl | (simp; done) | (simp [*]; done), by repeat (first | exact Drawn0.refl _ | apply Drawn0.step)⟩

/-! ### riverbankref02_Rank: function 112 -/
def riverbankref02_Rank.f (a0 : Int) : Option (Int) := if a0 < 0 then (some (-1)) else (if a0 > 89 then (some (-1)) else (some (wrap64 (Int.tdiv a0 9))))
set_option maxHeartbeats 8000000 in
set_option maxRecDepth 100000 in
theorem riverbankref02_Rank.calls (a0 : Int) (r : Int) (w : World) (h : riverbankref02_Rank.f a0 = some r) :
    Calls Try.prog 112 #[.int .i64 a0] w fun e w' => e = .returned (.int .i64 r) ∧ Drawn0 w w' := by
  have H : (if a0 < 0 then (some (-1)) else (if a0 > 89 then (some (-1)) else (some (wrap64 (Int.tdiv a0 9))))) = some r := h
  clear h
  by_cases c2 : a0 < 0
  · rw [if_pos c2] at H
    have c2b0 : decide (a0 < 0) = true := decide_eq_true c2
    clear c2
    obtain rfl := Option.some.inj H
    go_enter Try.func112, Try.ntmps112
    go_wp2
    go_ret
    exact ⟨by first | rfl | (simp; done) | (simp [*]; done), by repeat (first | exact Drawn0.refl _ | apply Drawn0.step)⟩
  · rw [if_neg c2] at H
    have c2b0 : decide (a0 < 0) = false := decide_eq_false c2
    clear c2
    by_cases c3 : a0 > 89
    · rw [if_pos c3] at H
      have c3b0 : decide (89 < a0) = true := decide_eq_true c3
      clear c3
      obtain rfl := Option.some.inj H
      go_enter Try.func112, Try.ntmps112
      go_wp2
      go_ret
      exact ⟨by first | rfl | (simp; done) | (simp [*]; done), by repeat (first | exact Drawn0.refl _ | apply Drawn0.step)⟩
    · rw [if_neg c3] at H
      have c3b0 : decide (89 < a0) = false := decide_eq_false c3
      clear c3
      obtain rfl := Option.some.inj H
      go_enter Try.func112, Try.ntmps112
      go_wp2
      go_ret
      exact ⟨by first | rfl | (simp; done) | (simp [*]; done), by repeat (first | exact Drawn0.refl _ | apply Drawn0.step)⟩

/-! ### riverbankref03_own: function 86 -/
def riverbankref03_own.f (a0 : Int) (a1 : Int) : Option (Int) := if a1 = 1 then ((riverbankref02_Rank.f a0).bind fun t261 => (some (wrap64 (9 - t261)))) else ((riverbankref02_Rank.f a0).bind fun t262 => (some t262))
set_option maxHeartbeats 8000000 in
set_option maxRecDepth 100000 in
theorem riverbankref03_own.calls (a0 : Int) (a1 : Int) (r : Int) (w : World) (h : riverbankref03_own.f a0 a1 = some r) :
    Calls Try.prog 86 #[.int .i64 a0, .int .i64 a1] w fun e w' => e = .returned (.int .i64 r) ∧ Drawn0 w w' := by
  have H : (if a1 = 1 then ((riverbankref02_Rank.f a0).bind fun t261 => (some (wrap64 (9 - t261)))) else ((riverbankref02_Rank.f a0).bind fun t262 => (some t262))) = some r := h
  clear h
  by_cases c3 : a1 = 1
  · rw [if_pos c3] at H
    have c3b0 : (a1 == 1) = true := beq_iff_eq.mpr c3
    have c3b1 : (a1 != 1) = false := bne_eq_false_iff_eq.mpr c3
    clear c3
    replace H := Option.bind_eq_some_iff.mp H
    obtain ⟨t261, A40, H⟩ := H
    replace H : (some (wrap64 (9 - t261))) = some r := H
    have A4 := Aside0.mk A40
    clear A40
    obtain rfl := Option.some.inj H
    go_enter Try.func86, Try.ntmps86
    go_wp2_with (first | ((with_reducible refine gate_callee (f := 112) rfl ?_); refine goesL_ (some 8) rfl rfl Try.func112 (by kernel_rfl) rfl #[.int .i64 a0] rfl (by (try simp only [List.map_toArray, List.map_cons, List.map_nil]); first | done | rfl | (simp only [List.length_drop, List.length_take]; rfl)) ?_; (with_reducible refine (riverbankref02_Rank.calls a0 t261 _ A4.out).mono ?_); rintro e w' ⟨rfl, ⟨nd, rfl⟩⟩; refine ⟨_, rfl, ?_⟩))
    go_ret
    exact ⟨by first | rfl | (simp; done) | (simp [*]; done), by repeat (first | exact Drawn0.refl _ | apply Drawn0.step)⟩
  · rw [if_neg c3] at H
    have c3b0 : (a1 == 1) = false := beq_eq_false_iff_ne.mpr c3
    have c3b1 : (a1 != 1) = true := bne_iff_ne.mpr c3
    replace H := Option.bind_eq_some_iff.mp H
    obtain ⟨t262, A50, H⟩ := H
    replace H : (some t262) = some r := H
    have A5 := Aside0.mk A50
    clear A50
    obtain rfl := Option.some.inj H
    go_enter Try.func86, Try.ntmps86
    go_wp2_with (first | ((with_reducible refine gate_callee (f := 112) rfl ?_); refine goesL_ (some 11) rfl rfl Try.func112 (by kernel_rfl) rfl #[.int .i64 a0] rfl (by (try simp only [List.map_toArray, List.map_cons, List.map_nil]); first | done | rfl | (simp only [List.length_drop, List.length_take]; rfl)) ?_; (with_reducible refine (riverbankref02_Rank.calls a0 t262 _ A5.out).mono ?_); rintro e w' ⟨rfl, ⟨nd, rfl⟩⟩; refine ⟨_, rfl, ?_⟩))
    go_ret
    exact ⟨by first | rfl | (simp; done) | (simp [*]; done), by repeat (first | exact Drawn0.refl _ | apply Drawn0.step)⟩

end Go.Proofs.Ytcanbidenhcohaa.P

/- Walks of Go functions, one Lean function and one contract for each, written by a program of this session out of the translation. -/
namespace Go.Proofs.Ytcanbidenhcohaa.P
open Go.RowKit Go.Proofs.YtcanbidenhcohaaW.PrintWords Go.Proofs.YtcanbidenhcohaaW.PrintLast Go.Proofs.YtcanbidenhcohaaW.PrintMore
attribute [local go_sem] max2_int min2_int max_two min_two max_three min_three max_four min_four   -- for this text's walks alone
set_option linter.unusedVariables false
set_option linter.unusedSimpArgs false

/-! ### riverbankref03_Palace: function 87 -/
def riverbankref03_Palace.f (a0 : Int) (a1 : Int) : Option (Bool) := (riverbankref02_File.f a0).bind fun t263 => ((riverbankref03_real.f a0 a1).bind fun t264 => (if t264 = true then (if t263 ≥ 3 then (if t263 ≤ 5 then ((riverbankref03_own.f a0 a1).bind fun t265 => (some (decide (t265 ≤ 2)))) else (some false)) else (some false)) else (some false)))
set_option maxHeartbeats 8000000 in
set_option maxRecDepth 100000 in
theorem riverbankref03_Palace.calls (a0 : Int) (a1 : Int) (r : Bool) (w : World) (h : riverbankref03_Palace.f a0 a1 = some r) :
    Calls Try.prog 87 #[.int .i64 a0, .int .i64 a1] w fun e w' => e = .returned (.bool r) ∧ Drawn0 w w' := by
  have H : ((riverbankref02_File.f a0).bind fun t263 => ((riverbankref03_real.f a0 a1).bind fun t264 => (if t264 = true then (if t263 ≥ 3 then (if t263 ≤ 5 then ((riverbankref03_own.f a0 a1).bind fun t265 => (some (decide (t265 ≤ 2)))) else (some false)) else (some false)) else (some false)))) = some r := h
  clear h
  replace H := Option.bind_eq_some_iff.mp H
  obtain ⟨t263, A30, H⟩ := H
  replace H : ((riverbankref03_real.f a0 a1).bind fun t264 => (if t264 = true then (if t263 ≥ 3 then (if t263 ≤ 5 then ((riverbankref03_own.f a0 a1).bind fun t265 => (some (decide (t265 ≤ 2)))) else (some false)) else (some false)) else (some false))) = some r := H
  have A3 := Aside0.mk A30
  clear A30
  replace H := Option.bind_eq_some_iff.mp H
  obtain ⟨t264, A40, H⟩ := H
  replace H : (if t264 = true then (if t263 ≥ 3 then (if t263 ≤ 5 then ((riverbankref03_own.f a0 a1).bind fun t265 => (some (decide (t265 ≤ 2)))) else (some false)) else (some false)) else (some false)) = some r := H
  have A4 := Aside0.mk A40
  clear A40
  by_cases c5 : t264 = true
  · subst c5
    have H1 : (if t263 ≥ 3 then (if t263 ≤ 5 then ((riverbankref03_own.f a0 a1).bind fun t265 => (some (decide (t265 ≤ 2)))) else (some false)) else (some false)) = some r := by rw [if_pos rfl] at H; exact H
    clear H
    have H := H1
    clear H1
    by_cases c6 : t263 ≥ 3
    · rw [if_pos c6] at H
      have c6b0 : decide (3 ≤ t263) = true := decide_eq_true c6
      clear c6
      by_cases c7 : t263 ≤ 5
      · rw [if_pos c7] at H
        have c7b0 : decide (t263 ≤ 5) = true := decide_eq_true c7
        clear c7
        replace H := Option.bind_eq_some_iff.mp H
        obtain ⟨t265, A80, H⟩ := H
        replace H : (some (decide (t265 ≤ 2))) = some r := H
        have A8 := Aside0.mk A80
        clear A80
        obtain rfl := Option.some.inj H
        go_enter Try.func87, Try.ntmps87
        go_wp2_with (first | ((with_reducible refine gate_callee (f := 85) rfl ?_); refine goesL_ (some 7) rfl rfl Try.func85 (by kernel_rfl) rfl #[.int .i64 a0] rfl (by (try simp only [List.map_toArray, List.map_cons, List.map_nil]); first | done | rfl | (simp only [List.length_drop, List.length_take]; rfl)) ?_; (with_reducible refine (riverbankref02_File.calls a0 t263 _ A3.out).mono ?_); rintro e w' ⟨rfl, ⟨nd, rfl⟩⟩; refine ⟨_, rfl, ?_⟩) | ((with_reducible refine gate_callee (f := 84) rfl ?_); refine goesL_ (some 10) rfl rfl Try.func84 (by kernel_rfl) rfl #[.int .i64 a0, .int .i64 a1] rfl (by (try simp only [List.map_toArray, List.map_cons, List.map_nil]); first | done | rfl | (simp only [List.length_drop, List.length_take]; rfl)) ?_; (with_reducible refine (riverbankref03_real.calls a0 a1 true _ A4.out).mono ?_); rintro e w' ⟨rfl, ⟨nd, rfl⟩⟩; refine ⟨_, rfl, ?_⟩) | (go_at_call 86; (with_reducible refine (riverbankref03_own.calls a0 a1 t265 _ A8.out).mono ?_); rintro e w' ⟨rfl, ⟨nd, rfl⟩⟩))
        go_ret
        exact ⟨by first | rfl | (simp; done) | (simp [*]; done), by repeat (first | exact Drawn0.refl _ | apply Drawn0.step)⟩
      · rw [if_neg c7] at H
        have c7b0 : decide (t263 ≤ 5) = false := decide_eq_false c7
        clear c7
        obtain rfl := Option.some.inj H
        go_enter Try.func87, Try.ntmps87
        go_wp2_with (first | ((with_reducible refine gate_callee (f := 85) rfl ?_); refine goesL_ (some 7) rfl rfl Try.func85 (by kernel_rfl) rfl #[.int .i64 a0] rfl (by (try simp only [List.map_toArray, List.map_cons, List.map_nil]); first | done | rfl | (simp only [List.length_drop, List.length_take]; rfl)) ?_; (with_reducible refine (riverbankref02_File.calls a0 t263 _ A3.out).mono ?_); rintro e w' ⟨rfl, ⟨nd, rfl⟩⟩; refine ⟨_, rfl, ?_⟩) | ((with_reducible refine gate_callee (f := 84) rfl ?_); refine goesL_ (some 10) rfl rfl Try.func84 (by kernel_rfl) rfl #[.int .i64 a0, .int .i64 a1] rfl (by (try simp only [List.map_toArray, List.map_cons, List.map_nil]); first | done | rfl | (simp only [List.length_drop, List.length_take]; rfl)) ?_; (with_reducible refine (riverbankref03_real.calls a0 a1 true _ A4.out).mono ?_); rintro e w' ⟨rfl, ⟨nd, rfl⟩⟩; refine ⟨_, rfl, ?_⟩))
        go_ret
        exact ⟨by first | rfl | (simp; done) | (simp [*]; done), by repeat (first | exact Drawn0.refl _ | apply Drawn0.step)⟩
    · rw [if_neg c6] at H
      have c6b0 : decide (3 ≤ t263) = false := decide_eq_false c6
      clear c6
      obtain rfl := Option.some.inj H
      go_enter Try.func87, Try.ntmps87
      go_wp2_with (first | ((with_reducible refine gate_callee (f := 85) rfl ?_); refine goesL_ (some 7) rfl rfl Try.func85 (by kernel_rfl) rfl #[.int .i64 a0] rfl (by (try simp only [List.map_toArray, List.map_cons, List.map_nil]); first | done | rfl | (simp only [List.length_drop, List.length_take]; rfl)) ?_; (with_reducible refine (riverbankref02_File.calls a0 t263 _ A3.out).mono ?_); rintro e w' ⟨rfl, ⟨nd, rfl⟩⟩; refine ⟨_, rfl, ?_⟩) | ((with_reducible refine gate_callee (f := 84) rfl ?_); refine goesL_ (some 10) rfl rfl Try.func84 (by kernel_rfl) rfl #[.int .i64 a0, .int .i64 a1] rfl (by (try simp only [List.map_toArray, List.map_cons, List.map_nil]); first | done | rfl | (simp only [List.length_drop, List.length_take]; rfl)) ?_; (with_reducible refine (riverbankref03_real.calls a0 a1 true _ A4.out).mono ?_); rintro e w' ⟨rfl, ⟨nd, rfl⟩⟩; refine ⟨_, rfl, ?_⟩))
      go_ret
      exact ⟨by first | rfl | (simp; done) | (simp [*]; done), by repeat (first | exact Drawn0.refl _ | apply Drawn0.step)⟩
  · replace c5 := Bool.eq_false_iff.mpr c5
    subst c5
    have H1 : (some false) = some r := by rw [if_neg (show ¬ (false = true) by decide)] at H; exact H
    clear H
    have H := H1
    clear H1
    obtain rfl := Option.some.inj H
    go_enter Try.func87, Try.ntmps87
    go_wp2_with (first | ((with_reducible refine gate_callee (f := 85) rfl ?_); refine goesL_ (some 7) rfl rfl Try.func85 (by kernel_rfl) rfl #[.int .i64 a0] rfl (by (try simp only [List.map_toArray, List.map_cons, List.map_nil]); first | done | rfl | (simp only [List.length_drop, List.length_take]; rfl)) ?_; (with_reducible refine (riverbankref02_File.calls a0 t263 _ A3.out).mono ?_); rintro e w' ⟨rfl, ⟨nd, rfl⟩⟩; refine ⟨_, rfl, ?_⟩) | ((with_reducible refine gate_callee (f := 84) rfl ?_); refine goesL_ (some 10) rfl rfl Try.func84 (by kernel_rfl) rfl #[.int .i64 a0, .int .i64 a1] rfl (by (try simp only [List.map_toArray, List.map_cons, List.map_nil]); first | done | rfl | (simp only [List.length_drop, List.length_take]; rfl)) ?_; (with_reducible refine (riverbankref03_real.calls a0 a1 false _ A4.out).mono ?_); rintro e w' ⟨rfl, ⟨nd, rfl⟩⟩; refine ⟨_, rfl, ?_⟩))
    go_ret
    exact ⟨by first | rfl | (simp; done) | (simp [*]; done), by repeat (first | exact Drawn0.refl _ | apply Drawn0.step)⟩

/-! ### riverbankref03_advisor: function 88 -/
def riverbankref03_advisor.f (a0 : Int) (a1 : Int) : Option (Bool) := if a0 = 4 then (if a1 = 1 then (some true) else (if a0 = 3 then (if a1 = 0 then (some true) else (some (a1 == 2))) else (if a0 = 5 then (if a1 = 0 then (some true) else (some (a1 == 2))) else (some false)))) else (if a0 = 3 then (if a1 = 0 then (some true) else (some (a1 == 2))) else (if a0 = 5 then (if a1 = 0 then (some true) else (some (a1 == 2))) else (some false)))
set_option maxHeartbeats 8000000 in
set_option maxRecDepth 100000 in
theorem riverbankref03_advisor.calls (a0 : Int) (a1 : Int) (r : Bool) (w : World) (h : riverbankref03_advisor.f a0 a1 = some r) :
    Calls Try.prog 88 #[.int .i64 a0, .int .i64 a1] w fun e w' => e = .returned (.bool r) ∧ Drawn0 w w' := by
  have H : (if a0 = 4 then (if a1 = 1 then (some true) else (if a0 = 3 then (if a1 = 0 then (some true) else (some (a1 == 2))) else (if a0 = 5 then (if a1 = 0 then (some true) else (some (a1 == 2))) else (some false)))) else (if a0 = 3 then (if a1 = 0 then (some true) else (some (a1 == 2))) else (if a0 = 5 then (if a1 = 0 then (some true) else (some (a1 == 2))) else (some false)))) = some r := h
  clear h
  by_cases c3 : a0 = 4
  · rw [if_pos c3] at H
    have c3b0 : (a0 == 4) = true := beq_iff_eq.mpr c3
    have c3b1 : (a0 != 4) = false := bne_eq_false_iff_eq.mpr c3
    clear c3
    by_cases c4 : a1 = 1
    · rw [if_pos c4] at H
      have c4b0 : (a1 == 1) = true := beq_iff_eq.mpr c4
      have c4b1 : (a1 != 1) = false := bne_eq_false_iff_eq.mpr c4
      clear c4
      obtain rfl := Option.some.inj H
      go_enter Try.func88, Try.ntmps88
      go_wp2
      go_ret
      exact ⟨by first | rfl | (simp; done) | (simp [*]; done), by repeat (first | exact Drawn0.refl _ | apply Drawn0.step)⟩
    · rw [if_neg c4] at H
      have c4b0 : (a1 == 1) = false := beq_eq_false_iff_ne.mpr c4
      have c4b1 : (a1 != 1) = true := bne_iff_ne.mpr c4
      by_cases c5 : a0 = 3
      · rw [if_pos c5] at H
        have c5b0 : (a0 == 3) = true := beq_iff_eq.mpr c5
        have c5b1 : (a0 != 3) = false := bne_eq_false_iff_eq.mpr c5
        clear c5
        by_cases c6 : a1 = 0
        · rw [if_pos c6] at H
          have c6b0 : (a1 == 0) = true := beq_iff_eq.mpr c6
          have c6b1 : (a1 != 0) = false := bne_eq_false_iff_eq.mpr c6
          clear c6
          obtain rfl := Option.some.inj H
          go_enter Try.func88, Try.ntmps88
          go_wp2
          go_ret
          exact ⟨by first | rfl | (simp; done) | (simp [*]; done), by repeat (first | exact Drawn0.refl _ | apply Drawn0.step)⟩
        · rw [if_neg c6] at H
          have c6b0 : (a1 == 0) = false := beq_eq_false_iff_ne.mpr c6
          have c6b1 : (a1 != 0) = true := bne_iff_ne.mpr c6
          obtain rfl := Option.some.inj H
          go_enter Try.func88, Try.ntmps88
          go_wp2
          go_ret
          exact ⟨by first | rfl | (simp; done) | (simp [*]; done), by repeat (first | exact Drawn0.refl _ | apply Drawn0.step)⟩
      · rw [if_neg c5] at H
        have c5b0 : (a0 == 3) = false := beq_eq_false_iff_ne.mpr c5
        have c5b1 : (a0 != 3) = true := bne_iff_ne.mpr c5
        by_cases c7 : a0 = 5
        · rw [if_pos c7] at H
          have c7b0 : (a0 == 5) = true := beq_iff_eq.mpr c7
          have c7b1 : (a0 != 5) = false := bne_eq_false_iff_eq.mpr c7
          clear c7
          by_cases c8 : a1 = 0
          · rw [if_pos c8] at H
            have c8b0 : (a1 == 0) = true := beq_iff_eq.mpr c8
            have c8b1 : (a1 != 0) = false := bne_eq_false_iff_eq.mpr c8
            clear c8
            obtain rfl := Option.some.inj H
            go_enter Try.func88, Try.ntmps88
            go_wp2
            go_ret
            exact ⟨by first | rfl | (simp; done) | (simp [*]; done), by repeat (first | exact Drawn0.refl _ | apply Drawn0.step)⟩
          · rw [if_neg c8] at H
            have c8b0 : (a1 == 0) = false := beq_eq_false_iff_ne.mpr c8
            have c8b1 : (a1 != 0) = true := bne_iff_ne.mpr c8
            obtain rfl := Option.some.inj H
            go_enter Try.func88, Try.ntmps88
            go_wp2
            go_ret
            exact ⟨by first | rfl | (simp; done) | (simp [*]; done), by repeat (first | exact Drawn0.refl _ | apply Drawn0.step)⟩
        · rw [if_neg c7] at H
          have c7b0 : (a0 == 5) = false := beq_eq_false_iff_ne.mpr c7
          have c7b1 : (a0 != 5) = true := bne_iff_ne.mpr c7
          obtain rfl := Option.some.inj H
          go_enter Try.func88, Try.ntmps88
          go_wp2
          go_ret
          exact ⟨by first | rfl | (simp; done) | (simp [*]; done), by repeat (first | exact Drawn0.refl _ | apply Drawn0.step)⟩
  · rw [if_neg c3] at H
    have c3b0 : (a0 == 4) = false := beq_eq_false_iff_ne.mpr c3
    have c3b1 : (a0 != 4) = true := bne_iff_ne.mpr c3
    by_cases c9 : a0 = 3
    · rw [if_pos c9] at H
      have c9b0 : (a0 == 3) = true := beq_iff_eq.mpr c9
      have c9b1 : (a0 != 3) = false := bne_eq_false_iff_eq.mpr c9
      clear c9
      by_cases c10 : a1 = 0
      · rw [if_pos c10] at H
        have c10b0 : (a1 == 0) = true := beq_iff_eq.mpr c10
        have c10b1 : (a1 != 0) = false := bne_eq_false_iff_eq.mpr c10
        clear c10
        obtain rfl := Option.some.inj H
        go_enter Try.func88, Try.ntmps88
        go_wp2
        go_ret
        exact ⟨by first | rfl | (simp; done) | (simp [*]; done), by repeat (first | exact Drawn0.refl _ | apply Drawn0.step)⟩
      · rw [if_neg c10] at H
        have c10b0 : (a1 == 0) = false := beq_eq_false_iff_ne.mpr c10
        have c10b1 : (a1 != 0) = true := bne_iff_ne.mpr c10
        obtain rfl := Option.some.inj H
        go_enter Try.func88, Try.ntmps88
        go_wp2
        go_ret
        exact ⟨by first | rfl | (simp; done) | (simp [*]; done), by repeat (first | exact Drawn0.refl _ | apply Drawn0.step)⟩
    · rw [if_neg c9] at H
      have c9b0 : (a0 == 3) = false := beq_eq_false_iff_ne.mpr c9
      have c9b1 : (a0 != 3) = true := bne_iff_ne.mpr c9
      by_cases c11 : a0 = 5
      · rw [if_pos c11] at H
        have c11b0 : (a0 == 5) = true := beq_iff_eq.mpr c11
        have c11b1 : (a0 != 5) = false := bne_eq_false_iff_eq.mpr c11
        clear c11
        by_cases c12 : a1 = 0
        · rw [if_pos c12] at H
          have c12b0 : (a1 == 0) = true := beq_iff_eq.mpr c12
          have c12b1 : (a1 != 0) = false := bne_eq_false_iff_eq.mpr c12
          clear c12
          obtain rfl := Option.some.inj H
          go_enter Try.func88, Try.ntmps88
          go_wp2
          go_ret
          exact ⟨by first | rfl | (simp; done) | (simp [*]; done), by repeat (first | exact Drawn0.refl _ | apply Drawn0.step)⟩
        · rw [if_neg c12] at H
          have c12b0 : (a1 == 0) = false := beq_eq_false_iff_ne.mpr c12
          have c12b1 : (a1 != 0) = true := bne_iff_ne.mpr c12
          obtain rfl := Option.some.inj H
          go_enter Try.func88, Try.ntmps88
          go_wp2
          go_ret
          exact ⟨by first | rfl | (simp; done) | (simp [*]; done), by repeat (first | exact Drawn0.refl _ | apply Drawn0.step)⟩
      · rw [if_neg c11] at H
        have c11b0 : (a0 == 5) = false := beq_eq_false_iff_ne.mpr c11
        have c11b1 : (a0 != 5) = true := bne_iff_ne.mpr c11
        obtain rfl := Option.some.inj H
        go_enter Try.func88, Try.ntmps88
        go_wp2
        go_ret
        exact ⟨by first | rfl | (simp; done) | (simp [*]; done), by repeat (first | exact Drawn0.refl _ | apply Drawn0.step)⟩

/-! ### riverbankref03_elephant: function 89 -/
def riverbankref03_elephant.j0 : Nat → Int → Int → Bool → Option (Bool)
  | 0, _, _, _ => none
  | k + 1, x0, x5, x6 => if x6 = true then (if x0 = 2 then (some true) else (some (x0 == 6))) else (if x5 = 2 then (if x0 = 0 then (some true) else (if x0 = 4 then (some true) else (some (x0 == 8)))) else (some false))
def riverbankref03_elephant.f (k : Nat) (a0 : Int) (a1 : Int) : Option (Bool) := if a1 = 0 then (riverbankref03_elephant.j0 k a0 a1 (a1 == 0)) else (riverbankref03_elephant.j0 k a0 a1 (a1 == 4))
theorem riverbankref03_elephant.mono_l : ∀ k, (∀ y0 y1 y2, LeO (riverbankref03_elephant.j0 k y0 y1 y2) (riverbankref03_elephant.j0 (k + 1) y0 y1 y2))
  | 0 => fun _ _ _ r h => by simp [riverbankref03_elephant.j0] at h
  | k + 1 => by
    have ih0 := riverbankref03_elephant.mono_l k
    · intro y0 y1 y2
      unfold riverbankref03_elephant.j0
      repeat' first
      | (with_reducible exact ih0 _ _ _)
      | (with_reducible exact LeO.refl _)
      | (with_reducible exact LeO.none _)
      | (with_reducible refine LeO.ite ?_ ?_)
      | (with_reducible refine LeO.bind ?_ (fun _ => ?_))
      | exact ih0 _ _ _
      | exact LeO.none _
      | refine LeO.ite ?_ ?_
      | refine LeO.bind ?_ (fun _ => ?_)
theorem riverbankref03_elephant.mono : ∀ a0 a1 k, LeO (riverbankref03_elephant.f k a0 a1) (riverbankref03_elephant.f (k + 1) a0 a1) := by
  intro a0 a1 k
  have ih0 := riverbankref03_elephant.mono_l k
  unfold riverbankref03_elephant.f
  repeat' first
      | (with_reducible exact ih0 _ _ _)
      | (with_reducible exact LeO.refl _)
      | (with_reducible exact LeO.none _)
      | (with_reducible refine LeO.ite ?_ ?_)
      | (with_reducible refine LeO.bind ?_ (fun _ => ?_))
      | exact ih0 _ _ _
      | exact LeO.none _
      | refine LeO.ite ?_ ?_
      | refine LeO.bind ?_ (fun _ => ?_)
set_option maxHeartbeats 8000000 in
set_option maxRecDepth 100000 in
theorem riverbankref03_elephant.calls (k : Nat) (a0 : Int) (a1 : Int) (r : Bool) (w : World) (h : riverbankref03_elephant.f k a0 a1 = some r) :
    Calls Try.prog 89 #[.int .i64 a0, .int .i64 a1] w fun e w' => e = .returned (.bool r) ∧ Drawn0 w w' := by
  have H : (if a1 = 0 then (riverbankref03_elephant.j0 k a0 a1 (a1 == 0)) else (riverbankref03_elephant.j0 k a0 a1 (a1 == 4))) = some r := h
  clear h
  have HC3 := Aside0.mk H
  clear H
  go_enter Try.func89, Try.ntmps89
  go_upto_if 6 with (fail)
  go_cut [6] (fun v6 wc => ∃ (kq : Nat) (x6_2 : Bool), v6 = .bool x6_2 ∧ Aside0 (riverbankref03_elephant.j0 kq a0 a1 x6_2 = some r) ∧ Aside0 (kq ≤ k) ∧ Drawn0 w wc)
  case first =>
    have H := HC3.out
    clear HC3
    by_cases c4 : a1 = 0
    · rw [if_pos c4] at H
      have c4b0 : (a1 == 0) = true := beq_iff_eq.mpr c4
      have c4b1 : (a1 != 0) = false := bne_eq_false_iff_eq.mpr c4
      clear c4
      (first | rw [c4b0] | (simp only [i64_w, i32_w]; rw [c4b0]) | skip)
      have H' := Aside0.mk H
      clear H
      go_wp2
      go_meet
      case rel => exact ⟨_, ((a1 == 0)), (by first | rfl | (simp; done) | (simp [*]; done)), H', ⟨by first | omega | exact Nat.le_refl _⟩, by repeat (first | exact Drawn0.refl _ | apply Drawn0.step)⟩
    · rw [if_neg c4] at H
      have c4b0 : (a1 == 0) = false := beq_eq_false_iff_ne.mpr c4
      have c4b1 : (a1 != 0) = true := bne_iff_ne.mpr c4
      (first | rw [c4b0] | (simp only [i64_w, i32_w]; rw [c4b0]) | skip)
      have H' := Aside0.mk H
      clear H
      go_wp2
      go_meet
      case rel => exact ⟨_, ((a1 == 4)), (by first | rfl | (simp; done) | (simp [*]; done)), H', ⟨by first | omega | exact Nat.le_refl _⟩, by repeat (first | exact Drawn0.refl _ | apply Drawn0.step)⟩
  case rest =>
    clear HC3
    try clear p2
    try clear c4
    try clear c4b0
    try clear c4b1
    obtain ⟨kq, x6_2, rfl, HA, HJ2, ⟨mc2, rfl⟩⟩ := hcut
    cases kq with
    | zero => exact absurd HA.out (by simp [riverbankref03_elephant.j0])
    | succ kj2 =>
      have H := HA.out
      clear HA
      simp only [riverbankref03_elephant.j0] at H
      by_cases c5 : x6_2 = true
      · subst c5
        have H1 : (if a0 = 2 then (some true) else (some (a0 == 6))) = some r := by rw [if_pos rfl] at H; exact H
        clear H
        have H := H1
        clear H1
        by_cases c6 : a0 = 2
        · rw [if_pos c6] at H
          have c6b0 : (a0 == 2) = true := beq_iff_eq.mpr c6
          have c6b1 : (a0 != 2) = false := bne_eq_false_iff_eq.mpr c6
          clear c6
          obtain rfl := Option.some.inj H
          go_wp2
          go_ret
          exact ⟨by first | rfl | (simp; done) | (simp [*]; done), by repeat (first | exact Drawn0.refl _ | apply Drawn0.step)⟩
        · rw [if_neg c6] at H
          have c6b0 : (a0 == 2) = false := beq_eq_false_iff_ne.mpr c6
          have c6b1 : (a0 != 2) = true := bne_iff_ne.mpr c6
          obtain rfl := Option.some.inj H
          go_wp2
          go_ret
          exact ⟨by first | rfl | (simp; done) | (simp [*]; done), by repeat (first | exact Drawn0.refl _ | apply Drawn0.step)⟩
      · replace c5 := Bool.eq_false_iff.mpr c5
        subst c5
        have H1 : (if a1 = 2 then (if a0 = 0 then (some true) else (if a0 = 4 then (some true) else (some (a0 == 8)))) else (some false)) = some r := by rw [if_neg (show ¬ (false = true) by decide)] at H; exact H
        clear H
        have H := H1
        clear H1
        by_cases c7 : a1 = 2
        · rw [if_pos c7] at H
          have c7b0 : (a1 == 2) = true := beq_iff_eq.mpr c7
          have c7b1 : (a1 != 2) = false := bne_eq_false_iff_eq.mpr c7
          clear c7
          by_cases c8 : a0 = 0
          · rw [if_pos c8] at H
            have c8b0 : (a0 == 0) = true := beq_iff_eq.mpr c8
            have c8b1 : (a0 != 0) = false := bne_eq_false_iff_eq.mpr c8
            clear c8
            obtain rfl := Option.some.inj H
            go_wp2
            go_ret
            exact ⟨by first | rfl | (simp; done) | (simp [*]; done), by repeat (first | exact Drawn0.refl _ | apply Drawn0.step)⟩
          · rw [if_neg c8] at H
            have c8b0 : (a0 == 0) = false := beq_eq_false_iff_ne.mpr c8
            have c8b1 : (a0 != 0) = true := bne_iff_ne.mpr c8
            by_cases c9 : a0 = 4
            · rw [if_pos c9] at H
              have c9b0 : (a0 == 4) = true := beq_iff_eq.mpr c9
              have c9b1 : (a0 != 4) = false := bne_eq_false_iff_eq.mpr c9
              clear c9
              obtain rfl := Option.some.inj H
              go_wp2
              go_ret
              exact ⟨by first | rfl | (simp; done) | (simp [*]; done), by repeat (first | exact Drawn0.refl _ | apply Drawn0.step)⟩
            · rw [if_neg c9] at H
              have c9b0 : (a0 == 4) = false := beq_eq_false_iff_ne.mpr c9
              have c9b1 : (a0 != 4) = true := bne_iff_ne.mpr c9
              obtain rfl := Option.some.inj H
              go_wp2
              go_ret
              exact ⟨by first | rfl | (simp; done) | (simp [*]; done), by repeat (first | exact Drawn0.refl _ | apply Drawn0.step)⟩
        · rw [if_neg c7] at H
          have c7b0 : (a1 == 2) = false := beq_eq_false_iff_ne.mpr c7
          have c7b1 : (a1 != 2) = true := bne_iff_ne.mpr c7
          obtain rfl := Option.some.inj H
          go_wp2
          go_ret
          exact ⟨by first | rfl | (simp; done) | (simp [*]; done), by repeat (first | exact Drawn0.refl _ | apply Drawn0.step)⟩

/-! ### riverbankref03_May: function 67 -/
def riverbankref03_May.j0 : Nat → Int → Int → Int → Bool → Option (Bool)
  | 0, _, _, _, _ => none
  | k + 1, x0, x1, x5, x17 => if x17 = true then (some false) else ((riverbankref02_File.f x1).bind fun t268 => ((riverbankref03_own.f x1 x5).bind fun t269 => ((riverbankref02_Kind.f k x0).bind fun t270 => (if t270 = 75 then ((riverbankref03_Palace.f x1 x5).bind fun t271 => (some t271)) else (if t270 = 65 then ((riverbankref03_advisor.f t268 t269).bind fun t272 => (some t272)) else (if t270 = 66 then ((riverbankref03_elephant.f k t268 t269).bind fun t273 => (some t273)) else (if t270 = 80 then (if t269 ≥ 5 then (some true) else (if t269 ≥ 3 then (some ((Int.tmod t268 2) == 0)) else (some false))) else (some true))))))))
def riverbankref03_May.f (k : Nat) (a0 : Int) (a1 : Int) : Option (Bool) := (riverbankref02_Side.f k a0).bind fun t266 => (if t266 < 0 then (riverbankref03_May.j0 k a0 a1 t266 true) else ((riverbankref03_real.f a1 t266).bind fun t267 => (riverbankref03_May.j0 k a0 a1 t266 (!t267))))
theorem riverbankref03_May.mono_l : ∀ k, (∀ y0 y1 y2 y3, LeO (riverbankref03_May.j0 k y0 y1 y2 y3) (riverbankref03_May.j0 (k + 1) y0 y1 y2 y3))
  | 0 => fun _ _ _ _ r h => by simp [riverbankref03_May.j0] at h
  | k + 1 => by
    have ih0 := riverbankref03_May.mono_l k
    · intro y0 y1 y2 y3
      unfold riverbankref03_May.j0
      repeat' first
      | (with_reducible exact ih0 _ _ _ _)
      | (with_reducible exact riverbankref02_Kind.mono _ _)
      | (with_reducible exact riverbankref02_Side.mono _ _)
      | (with_reducible exact riverbankref03_elephant.mono _ _ _)
      | (with_reducible exact LeO.refl _)
      | (with_reducible exact LeO.none _)
      | (with_reducible refine LeO.ite ?_ ?_)
      | (with_reducible refine LeO.bind ?_ (fun _ => ?_))
      | exact ih0 _ _ _ _
      | exact riverbankref02_Kind.mono _ _
      | exact riverbankref02_Side.mono _ _
      | exact riverbankref03_elephant.mono _ _ _
      | exact LeO.none _
      | refine LeO.ite ?_ ?_
      | refine LeO.bind ?_ (fun _ => ?_)
theorem riverbankref03_May.mono : ∀ a0 a1 k, LeO (riverbankref03_May.f k a0 a1) (riverbankref03_May.f (k + 1) a0 a1) := by
  intro a0 a1 k
  have ih0 := riverbankref03_May.mono_l k
  unfold riverbankref03_May.f
  repeat' first
      | (with_reducible exact ih0 _ _ _ _)
      | (with_reducible exact riverbankref02_Kind.mono _ _)
      | (with_reducible exact riverbankref02_Side.mono _ _)
      | (with_reducible exact riverbankref03_elephant.mono _ _ _)
      | (with_reducible exact LeO.refl _)
      | (with_reducible exact LeO.none _)
      | (with_reducible refine LeO.ite ?_ ?_)
      | (with_reducible refine LeO.bind ?_ (fun _ => ?_))
      | exact ih0 _ _ _ _
      | exact riverbankref02_Kind.mono _ _
      | exact riverbankref02_Side.mono _ _
      | exact riverbankref03_elephant.mono _ _ _
      | exact LeO.none _
      | refine LeO.ite ?_ ?_
      | refine LeO.bind ?_ (fun _ => ?_)
set_option maxHeartbeats 8000000 in
set_option maxRecDepth 100000 in
theorem riverbankref03_May.calls (k : Nat) (a0 : Int) (a1 : Int) (r : Bool) (w : World) (h : riverbankref03_May.f k a0 a1 = some r) :
    Calls Try.prog 67 #[.int .u8 a0, .int .i64 a1] w fun e w' => e = .returned (.bool r) ∧ Drawn0 w w' := by
  have H : ((riverbankref02_Side.f k a0).bind fun t266 => (if t266 < 0 then (riverbankref03_May.j0 k a0 a1 t266 true) else ((riverbankref03_real.f a1 t266).bind fun t267 => (riverbankref03_May.j0 k a0 a1 t266 (!t267))))) = some r := h
  clear h
  replace H := Option.bind_eq_some_iff.mp H
  obtain ⟨t266, A30, H⟩ := H
  replace H : (if t266 < 0 then (riverbankref03_May.j0 k a0 a1 t266 true) else ((riverbankref03_real.f a1 t266).bind fun t267 => (riverbankref03_May.j0 k a0 a1 t266 (!t267)))) = some r := H
  have A3 := Aside0.mk A30
  clear A30
  have HC4 := Aside0.mk H
  clear H
  go_enter Try.func67, Try.ntmps67
  go_upto_region 2 with (first | ((with_reducible refine gate_callee (f := 38) rfl ?_); refine goesL_ (some 9) rfl rfl Try.func38 (by kernel_rfl) rfl #[.int .u8 a0] rfl (by (try simp only [List.map_toArray, List.map_cons, List.map_nil]); first | done | rfl | (simp only [List.length_drop, List.length_take]; rfl)) ?_; (with_reducible refine (riverbankref02_Side.calls k a0 t266 _ A3.out).mono ?_); rintro e w' ⟨rfl, ⟨nd, rfl⟩⟩; refine ⟨_, rfl, ?_⟩))
  (try simp only [Act.put, List.setIfInBounds_toArray, List.set_cons_zero, List.set_cons_succ])
  go_cut [17] (fun v17 wc => ∃ (kq : Nat) (x17_3 : Bool), v17 = .bool x17_3 ∧ Aside0 (riverbankref03_May.j0 kq a0 a1 t266 x17_3 = some r) ∧ Aside0 (kq ≤ k) ∧ Drawn0 w wc)
  case first =>
    have H := HC4.out
    clear HC4
    by_cases c5 : t266 < 0
    · rw [if_pos c5] at H
      have c5b0 : decide (t266 < 0) = true := decide_eq_true c5
      clear c5
      (first | rw [c5b0] | (simp only [i64_w, i32_w]; rw [c5b0]) | skip)
      have H' := Aside0.mk H
      clear H
      go_wp2
      go_meet
      case rel => exact ⟨_, (true), (by first | rfl | (simp; done) | (simp [*]; done)), H', ⟨by first | omega | exact Nat.le_refl _⟩, by repeat (first | exact Drawn0.refl _ | apply Drawn0.step)⟩
    · rw [if_neg c5] at H
      have c5b0 : decide (t266 < 0) = false := decide_eq_false c5
      clear c5
      (first | rw [c5b0] | (simp only [i64_w, i32_w]; rw [c5b0]) | skip)
      replace H := Option.bind_eq_some_iff.mp H
      obtain ⟨t267, A60, H⟩ := H
      replace H : (riverbankref03_May.j0 k a0 a1 t266 (!t267)) = some r := H
      have A6 := Aside0.mk A60
      clear A60
      have H' := Aside0.mk H
      clear H
      go_wp2_with (first | (go_at_call 84; (with_reducible refine (riverbankref03_real.calls a1 t266 t267 _ A6.out).mono ?_); rintro e w' ⟨rfl, ⟨nd, rfl⟩⟩))
      go_meet
      case rel => exact ⟨_, (!t267), (by first | rfl | (simp; done) | (simp [*]; done)), H', ⟨by first | omega | exact Nat.le_refl _⟩, by repeat (first | exact Drawn0.refl _ | apply Drawn0.step)⟩
  case rest =>
    clear HC4
    try clear p2
    try clear c3
    try clear c5
    try clear c5b0
    try clear c6
    obtain ⟨kq, x17_3, rfl, HA, HJ3, ⟨mc3, rfl⟩⟩ := hcut
    cases kq with
    | zero => exact absurd HA.out (by simp [riverbankref03_May.j0])
    | succ kj3 =>
      have H := HA.out
      clear HA
      simp only [riverbankref03_May.j0] at H
      by_cases c7 : x17_3 = true
      · subst c7
        have H1 : (some false) = some r := by rw [if_pos rfl] at H; exact H
        clear H
        have H := H1
        clear H1
        obtain rfl := Option.some.inj H
        go_wp2
        go_ret
        exact ⟨by first | rfl | (simp; done) | (simp [*]; done), by repeat (first | exact Drawn0.refl _ | apply Drawn0.step)⟩
      · replace c7 := Bool.eq_false_iff.mpr c7
        subst c7
        have H1 : ((riverbankref02_File.f a1).bind fun t268 => ((riverbankref03_own.f a1 t266).bind fun t269 => ((riverbankref02_Kind.f kj3 a0).bind fun t270 => (if t270 = 75 then ((riverbankref03_Palace.f a1 t266).bind fun t271 => (some t271)) else (if t270 = 65 then ((riverbankref03_advisor.f t268 t269).bind fun t272 => (some t272)) else (if t270 = 66 then ((riverbankref03_elephant.f kj3 t268 t269).bind fun t273 => (some t273)) else (if t270 = 80 then (if t269 ≥ 5 then (some true) else (if t269 ≥ 3 then (some ((Int.tmod t268 2) == 0)) else (some false))) else (some true)))))))) = some r := by rw [if_neg (show ¬ (false = true) by decide)] at H; exact H
        clear H
        have H := H1
        clear H1
        replace H := Option.bind_eq_some_iff.mp H
        obtain ⟨t268, A80, H⟩ := H
        replace H : ((riverbankref03_own.f a1 t266).bind fun t269 => ((riverbankref02_Kind.f kj3 a0).bind fun t270 => (if t270 = 75 then ((riverbankref03_Palace.f a1 t266).bind fun t271 => (some t271)) else (if t270 = 65 then ((riverbankref03_advisor.f t268 t269).bind fun t272 => (some t272)) else (if t270 = 66 then ((riverbankref03_elephant.f kj3 t268 t269).bind fun t273 => (some t273)) else (if t270 = 80 then (if t269 ≥ 5 then (some true) else (if t269 ≥ 3 then (some ((Int.tmod t268 2) == 0)) else (some false))) else (some true))))))) = some r := H
        have A8 := Aside0.mk A80
        clear A80
        replace H := Option.bind_eq_some_iff.mp H
        obtain ⟨t269, A90, H⟩ := H
        replace H : ((riverbankref02_Kind.f kj3 a0).bind fun t270 => (if t270 = 75 then ((riverbankref03_Palace.f a1 t266).bind fun t271 => (some t271)) else (if t270 = 65 then ((riverbankref03_advisor.f t268 t269).bind fun t272 => (some t272)) else (if t270 = 66 then ((riverbankref03_elephant.f kj3 t268 t269).bind fun t273 => (some t273)) else (if t270 = 80 then (if t269 ≥ 5 then (some true) else (if t269 ≥ 3 then (some ((Int.tmod t268 2) == 0)) else (some false))) else (some true)))))) = some r := H
        have A9 := Aside0.mk A90
        clear A90
        replace H := Option.bind_eq_some_iff.mp H
        obtain ⟨t270, A100, H⟩ := H
        replace H : (if t270 = 75 then ((riverbankref03_Palace.f a1 t266).bind fun t271 => (some t271)) else (if t270 = 65 then ((riverbankref03_advisor.f t268 t269).bind fun t272 => (some t272)) else (if t270 = 66 then ((riverbankref03_elephant.f kj3 t268 t269).bind fun t273 => (some t273)) else (if t270 = 80 then (if t269 ≥ 5 then (some true) else (if t269 ≥ 3 then (some ((Int.tmod t268 2) == 0)) else (some false))) else (some true))))) = some r := H
        have A10 := Aside0.mk A100
        clear A100
        by_cases c11 : t270 = 75
        · rw [if_pos c11] at H
          have c11b0 : (t270 == 75) = true := beq_iff_eq.mpr c11
          have c11b1 : (t270 != 75) = false := bne_eq_false_iff_eq.mpr c11
          clear c11
          replace H := Option.bind_eq_some_iff.mp H
          obtain ⟨t271, A120, H⟩ := H
          replace H : (some t271) = some r := H
          have A12 := Aside0.mk A120
          clear A120
          obtain rfl := Option.some.inj H
          go_wp2_with (first | ((with_reducible refine gate_callee (f := 85) rfl ?_); refine goesL_ (some 19) rfl rfl Try.func85 (by kernel_rfl) rfl #[.int .i64 a1] rfl (by (try simp only [List.map_toArray, List.map_cons, List.map_nil]); first | done | rfl | (simp only [List.length_drop, List.length_take]; rfl)) ?_; (with_reducible refine (riverbankref02_File.calls a1 t268 _ A8.out).mono ?_); rintro e w' ⟨rfl, ⟨nd, rfl⟩⟩; refine ⟨_, rfl, ?_⟩) | ((with_reducible refine gate_callee (f := 86) rfl ?_); refine goesL_ (some 22) rfl rfl Try.func86 (by kernel_rfl) rfl #[.int .i64 a1, .int .i64 t266] rfl (by (try simp only [List.map_toArray, List.map_cons, List.map_nil]); first | done | rfl | (simp only [List.length_drop, List.length_take]; rfl)) ?_; (with_reducible refine (riverbankref03_own.calls a1 t266 t269 _ A9.out).mono ?_); rintro e w' ⟨rfl, ⟨nd, rfl⟩⟩; refine ⟨_, rfl, ?_⟩) | ((with_reducible refine gate_callee (f := 33) rfl ?_); refine goesL_ (some 24) rfl rfl Try.func33 (by kernel_rfl) rfl #[.int .u8 a0] rfl (by (try simp only [List.map_toArray, List.map_cons, List.map_nil]); first | done | rfl | (simp only [List.length_drop, List.length_take]; rfl)) ?_; (with_reducible refine (riverbankref02_Kind.calls kj3 a0 t270 _ A10.out).mono ?_); rintro e w' ⟨rfl, ⟨nd, rfl⟩⟩; refine ⟨_, rfl, ?_⟩) | ((with_reducible refine gate_callee (f := 87) rfl ?_); refine goesL_ (some 29) rfl rfl Try.func87 (by kernel_rfl) rfl #[.int .i64 a1, .int .i64 t266] rfl (by (try simp only [List.map_toArray, List.map_cons, List.map_nil]); first | done | rfl | (simp only [List.length_drop, List.length_take]; rfl)) ?_; (with_reducible refine (riverbankref03_Palace.calls a1 t266 t271 _ A12.out).mono ?_); rintro e w' ⟨rfl, ⟨nd, rfl⟩⟩; refine ⟨_, rfl, ?_⟩))
          go_ret
          exact ⟨by first | rfl | (simp; done) | (simp [*]; done), by repeat (first | exact Drawn0.refl _ | apply Drawn0.step)⟩
        · rw [if_neg c11] at H
          have c11b0 : (t270 == 75) = false := beq_eq_false_iff_ne.mpr c11
          have c11b1 : (t270 != 75) = true := bne_iff_ne.mpr c11
          by_cases c13 : t270 = 65
          · rw [if_pos c13] at H
            have c13b0 : (t270 == 65) = true := beq_iff_eq.mpr c13
            have c13b1 : (t270 != 65) = false := bne_eq_false_iff_eq.mpr c13
            clear c13
            replace H := Option.bind_eq_some_iff.mp H
            obtain ⟨t272, A140, H⟩ := H
            replace H : (some t272) = some r := H
            have A14 := Aside0.mk A140
            clear A140
            obtain rfl := Option.some.inj H
            go_wp2_with (first | ((with_reducible refine gate_callee (f := 85) rfl ?_); refine goesL_ (some 19) rfl rfl Try.func85 (by kernel_rfl) rfl #[.int .i64 a1] rfl (by (try simp only [List.map_toArray, List.map_cons, List.map_nil]); first | done | rfl | (simp only [List.length_drop, List.length_take]; rfl)) ?_; (with_reducible refine (riverbankref02_File.calls a1 t268 _ A8.out).mono ?_); rintro e w' ⟨rfl, ⟨nd, rfl⟩⟩; refine ⟨_, rfl, ?_⟩) | ((with_reducible refine gate_callee (f := 86) rfl ?_); refine goesL_ (some 22) rfl rfl Try.func86 (by kernel_rfl) rfl #[.int .i64 a1, .int .i64 t266] rfl (by (try simp only [List.map_toArray, List.map_cons, List.map_nil]); first | done | rfl | (simp only [List.length_drop, List.length_take]; rfl)) ?_; (with_reducible refine (riverbankref03_own.calls a1 t266 t269 _ A9.out).mono ?_); rintro e w' ⟨rfl, ⟨nd, rfl⟩⟩; refine ⟨_, rfl, ?_⟩) | ((with_reducible refine gate_callee (f := 33) rfl ?_); refine goesL_ (some 24) rfl rfl Try.func33 (by kernel_rfl) rfl #[.int .u8 a0] rfl (by (try simp only [List.map_toArray, List.map_cons, List.map_nil]); first | done | rfl | (simp only [List.length_drop, List.length_take]; rfl)) ?_; (with_reducible refine (riverbankref02_Kind.calls kj3 a0 t270 _ A10.out).mono ?_); rintro e w' ⟨rfl, ⟨nd, rfl⟩⟩; refine ⟨_, rfl, ?_⟩) | ((with_reducible refine gate_callee (f := 88) rfl ?_); refine goesL_ (some 34) rfl rfl Try.func88 (by kernel_rfl) rfl #[.int .i64 t268, .int .i64 t269] rfl (by (try simp only [List.map_toArray, List.map_cons, List.map_nil]); first | done | rfl | (simp only [List.length_drop, List.length_take]; rfl)) ?_; (with_reducible refine (riverbankref03_advisor.calls t268 t269 t272 _ A14.out).mono ?_); rintro e w' ⟨rfl, ⟨nd, rfl⟩⟩; refine ⟨_, rfl, ?_⟩))
            go_ret
            exact ⟨by first | rfl | (simp; done) | (simp [*]; done), by repeat (first | exact Drawn0.refl _ | apply Drawn0.step)⟩
          · rw [if_neg c13] at H
            have c13b0 : (t270 == 65) = false := beq_eq_false_iff_ne.mpr c13
            have c13b1 : (t270 != 65) = true := bne_iff_ne.mpr c13
            by_cases c15 : t270 = 66
            · rw [if_pos c15] at H
              have c15b0 : (t270 == 66) = true := beq_iff_eq.mpr c15
              have c15b1 : (t270 != 66) = false := bne_eq_false_iff_eq.mpr c15
              clear c15
              replace H := Option.bind_eq_some_iff.mp H
              obtain ⟨t273, A160, H⟩ := H
              replace H : (some t273) = some r := H
              have A16 := Aside0.mk A160
              clear A160
              obtain rfl := Option.some.inj H
              go_wp2_with (first | ((with_reducible refine gate_callee (f := 85) rfl ?_); refine goesL_ (some 19) rfl rfl Try.func85 (by kernel_rfl) rfl #[.int .i64 a1] rfl (by (try simp only [List.map_toArray, List.map_cons, List.map_nil]); first | done | rfl | (simp only [List.length_drop, List.length_take]; rfl)) ?_; (with_reducible refine (riverbankref02_File.calls a1 t268 _ A8.out).mono ?_); rintro e w' ⟨rfl, ⟨nd, rfl⟩⟩; refine ⟨_, rfl, ?_⟩) | ((with_reducible refine gate_callee (f := 86) rfl ?_); refine goesL_ (some 22) rfl rfl Try.func86 (by kernel_rfl) rfl #[.int .i64 a1, .int .i64 t266] rfl (by (try simp only [List.map_toArray, List.map_cons, List.map_nil]); first | done | rfl | (simp only [List.length_drop, List.length_take]; rfl)) ?_; (with_reducible refine (riverbankref03_own.calls a1 t266 t269 _ A9.out).mono ?_); rintro e w' ⟨rfl, ⟨nd, rfl⟩⟩; refine ⟨_, rfl, ?_⟩) | ((with_reducible refine gate_callee (f := 33) rfl ?_); refine goesL_ (some 24) rfl rfl Try.func33 (by kernel_rfl) rfl #[.int .u8 a0] rfl (by (try simp only [List.map_toArray, List.map_cons, List.map_nil]); first | done | rfl | (simp only [List.length_drop, List.length_take]; rfl)) ?_; (with_reducible refine (riverbankref02_Kind.calls kj3 a0 t270 _ A10.out).mono ?_); rintro e w' ⟨rfl, ⟨nd, rfl⟩⟩; refine ⟨_, rfl, ?_⟩) | ((with_reducible refine gate_callee (f := 89) rfl ?_); refine goesL_ (some 39) rfl rfl Try.func89 (by kernel_rfl) rfl #[.int .i64 t268, .int .i64 t269] rfl (by (try simp only [List.map_toArray, List.map_cons, List.map_nil]); first | done | rfl | (simp only [List.length_drop, List.length_take]; rfl)) ?_; (with_reducible refine (riverbankref03_elephant.calls kj3 t268 t269 t273 _ A16.out).mono ?_); rintro e w' ⟨rfl, ⟨nd, rfl⟩⟩; refine ⟨_, rfl, ?_⟩))
              go_ret
              exact ⟨by first | rfl | (simp; done) | (simp [*]; done), by repeat (first | exact Drawn0.refl _ | apply Drawn0.step)⟩
            · rw [if_neg c15] at H
              have c15b0 : (t270 == 66) = false := beq_eq_false_iff_ne.mpr c15
              have c15b1 : (t270 != 66) = true := bne_iff_ne.mpr c15
              by_cases c17 : t270 = 80
              · rw [if_pos c17] at H
                have c17b0 : (t270 == 80) = true := beq_iff_eq.mpr c17
                have c17b1 : (t270 != 80) = false := bne_eq_false_iff_eq.mpr c17
                clear c17
                by_cases c18 : t269 ≥ 5
                · rw [if_pos c18] at H
                  have c18b0 : decide (5 ≤ t269) = true := decide_eq_true c18
                  clear c18
                  obtain rfl := Option.some.inj H
                  go_wp2_with (first | ((with_reducible refine gate_callee (f := 85) rfl ?_); refine goesL_ (some 19) rfl rfl Try.func85 (by kernel_rfl) rfl #[.int .i64 a1] rfl (by (try simp only [List.map_toArray, List.map_cons, List.map_nil]); first | done | rfl | (simp only [List.length_drop, List.length_take]; rfl)) ?_; (with_reducible refine (riverbankref02_File.calls a1 t268 _ A8.out).mono ?_); rintro e w' ⟨rfl, ⟨nd, rfl⟩⟩; refine ⟨_, rfl, ?_⟩) | ((with_reducible refine gate_callee (f := 86) rfl ?_); refine goesL_ (some 22) rfl rfl Try.func86 (by kernel_rfl) rfl #[.int .i64 a1, .int .i64 t266] rfl (by (try simp only [List.map_toArray, List.map_cons, List.map_nil]); first | done | rfl | (simp only [List.length_drop, List.length_take]; rfl)) ?_; (with_reducible refine (riverbankref03_own.calls a1 t266 t269 _ A9.out).mono ?_); rintro e w' ⟨rfl, ⟨nd, rfl⟩⟩; refine ⟨_, rfl, ?_⟩) | ((with_reducible refine gate_callee (f := 33) rfl ?_); refine goesL_ (some 24) rfl rfl Try.func33 (by kernel_rfl) rfl #[.int .u8 a0] rfl (by (try simp only [List.map_toArray, List.map_cons, List.map_nil]); first | done | rfl | (simp only [List.length_drop, List.length_take]; rfl)) ?_; (with_reducible refine (riverbankref02_Kind.calls kj3 a0 t270 _ A10.out).mono ?_); rintro e w' ⟨rfl, ⟨nd, rfl⟩⟩; refine ⟨_, rfl, ?_⟩))
                  go_ret
                  exact ⟨by first | rfl | (simp; done) | (simp [*]; done), by repeat (first | exact Drawn0.refl _ | apply Drawn0.step)⟩
                · rw [if_neg c18] at H
                  have c18b0 : decide (5 ≤ t269) = false := decide_eq_false c18
                  clear c18
                  by_cases c19 : t269 ≥ 3
                  · rw [if_pos c19] at H
                    have c19b0 : decide (3 ≤ t269) = true := decide_eq_true c19
                    clear c19
                    obtain rfl := Option.some.inj H
                    go_wp2_with (first | ((with_reducible refine gate_callee (f := 85) rfl ?_); refine goesL_ (some 19) rfl rfl Try.func85 (by kernel_rfl) rfl #[.int .i64 a1] rfl (by (try simp only [List.map_toArray, List.map_cons, List.map_nil]); first | done | rfl | (simp only [List.length_drop, List.length_take]; rfl)) ?_; (with_reducible refine (riverbankref02_File.calls a1 t268 _ A8.out).mono ?_); rintro e w' ⟨rfl, ⟨nd, rfl⟩⟩; refine ⟨_, rfl, ?_⟩) | ((with_reducible refine gate_callee (f := 86) rfl ?_); refine goesL_ (some 22) rfl rfl Try.func86 (by kernel_rfl) rfl #[.int .i64 a1, .int .i64 t266] rfl (by (try simp only [List.map_toArray, List.map_cons, List.map_nil]); first | done | rfl | (simp only [List.length_drop, List.length_take]; rfl)) ?_; (with_reducible refine (riverbankref03_own.calls a1 t266 t269 _ A9.out).mono ?_); rintro e w' ⟨rfl, ⟨nd, rfl⟩⟩; refine ⟨_, rfl, ?_⟩) | ((with_reducible refine gate_callee (f := 33) rfl ?_); refine goesL_ (some 24) rfl rfl Try.func33 (by kernel_rfl) rfl #[.int .u8 a0] rfl (by (try simp only [List.map_toArray, List.map_cons, List.map_nil]); first | done | rfl | (simp only [List.length_drop, List.length_take]; rfl)) ?_; (with_reducible refine (riverbankref02_Kind.calls kj3 a0 t270 _ A10.out).mono ?_); rintro e w' ⟨rfl, ⟨nd, rfl⟩⟩; refine ⟨_, rfl, ?_⟩))
                    go_ret
                    exact ⟨by first | rfl | (simp; done) | (simp [*]; done), by repeat (first | exact Drawn0.refl _ | apply Drawn0.step)⟩
                  · rw [if_neg c19] at H
                    have c19b0 : decide (3 ≤ t269) = false := decide_eq_false c19
                    clear c19
                    obtain rfl := Option.some.inj H
                    go_wp2_with (first | ((with_reducible refine gate_callee (f := 85) rfl ?_); refine goesL_ (some 19) rfl rfl Try.func85 (by kernel_rfl) rfl #[.int .i64 a1] rfl (by (try simp only [List.map_toArray, List.map_cons, List.map_nil]); first | done | rfl | (simp only [List.length_drop, List.length_take]; rfl)) ?_; (with_reducible refine (riverbankref02_File.calls a1 t268 _ A8.out).mono ?_); rintro e w' ⟨rfl, ⟨nd, rfl⟩⟩; refine ⟨_, rfl, ?_⟩) | ((with_reducible refine gate_callee (f := 86) rfl ?_); refine goesL_ (some 22) rfl rfl Try.func86 (by kernel_rfl) rfl #[.int .i64 a1, .int .i64 t266] rfl (by (try simp only [List.map_toArray, List.map_cons, List.map_nil]); first | done | rfl | (simp only [List.length_drop, List.length_take]; rfl)) ?_; (with_reducible refine (riverbankref03_own.calls a1 t266 t269 _ A9.out).mono ?_); rintro e w' ⟨rfl, ⟨nd, rfl⟩⟩; refine ⟨_, rfl, ?_⟩) | ((with_reducible refine gate_callee (f := 33) rfl ?_); refine goesL_ (some 24) rfl rfl Try.func33 (by kernel_rfl) rfl #[.int .u8 a0] rfl (by (try simp only [List.map_toArray, List.map_cons, List.map_nil]); first | done | rfl | (simp only [List.length_drop, List.length_take]; rfl)) ?_; (with_reducible refine (riverbankref02_Kind.calls kj3 a0 t270 _ A10.out).mono ?_); rintro e w' ⟨rfl, ⟨nd, rfl⟩⟩; refine ⟨_, rfl, ?_⟩))
                    go_ret
                    exact ⟨by first | rfl | (simp; done) | (simp [*]; done), by repeat (first | exact Drawn0.refl _ | apply Drawn0.step)⟩
              · rw [if_neg c17] at H
                have c17b0 : (t270 == 80) = false := beq_eq_false_iff_ne.mpr c17
                have c17b1 : (t270 != 80) = true := bne_iff_ne.mpr c17
                obtain rfl := Option.some.inj H
                go_wp2_with (first | ((with_reducible refine gate_callee (f := 85) rfl ?_); refine goesL_ (some 19) rfl rfl Try.func85 (by kernel_rfl) rfl #[.int .i64 a1] rfl (by (try simp only [List.map_toArray, List.map_cons, List.map_nil]); first | done | rfl | (simp only [List.length_drop, List.length_take]; rfl)) ?_; (with_reducible refine (riverbankref02_File.calls a1 t268 _ A8.out).mono ?_); rintro e w' ⟨rfl, ⟨nd, rfl⟩⟩; refine ⟨_, rfl, ?_⟩) | ((with_reducible refine gate_callee (f := 86) rfl ?_); refine goesL_ (some 22) rfl rfl Try.func86 (by kernel_rfl) rfl #[.int .i64 a1, .int .i64 t266] rfl (by (try simp only [List.map_toArray, List.map_cons, List.map_nil]); first | done | rfl | (simp only [List.length_drop, List.length_take]; rfl)) ?_; (with_reducible refine (riverbankref03_own.calls a1 t266 t269 _ A9.out).mono ?_); rintro e w' ⟨rfl, ⟨nd, rfl⟩⟩; refine ⟨_, rfl, ?_⟩) | ((with_reducible refine gate_callee (f := 33) rfl ?_); refine goesL_ (some 24) rfl rfl Try.func33 (by kernel_rfl) rfl #[.int .u8 a0] rfl (by (try simp only [List.map_toArray, List.map_cons, List.map_nil]); first | done | rfl | (simp only [List.length_drop, List.length_take]; rfl)) ?_; (with_reducible refine (riverbankref02_Kind.calls kj3 a0 t270 _ A10.out).mono ?_); rintro e w' ⟨rfl, ⟨nd, rfl⟩⟩; refine ⟨_, rfl, ?_⟩))
                go_ret
                exact ⟨by first | rfl | (simp; done) | (simp [*]; done), by repeat (first | exact Drawn0.refl _ | apply Drawn0.step)⟩

/-! ### riverbankref05_away: function 107 -/
def riverbankref05_away.f (a0 : Int) (a1 : Int) : Option (Int) := some (wrap64 ((mx a0 a1) - (mn a0 a1)))
set_option maxHeartbeats 8000000 in
set_option maxRecDepth 100000 in
theorem riverbankref05_away.calls (a0 : Int) (a1 : Int) (r : Int) (w : World) (h : riverbankref05_away.f a0 a1 = some r) :
    Calls Try.prog 107 #[.int .i64 a0, .int .i64 a1] w fun e w' => e = .returned (.int .i64 r) ∧ Below w.heap.size w w' := by
  have HB := Aside0.mk (Below.refl w.heap.size w)
  have H : (some (wrap64 ((mx a0 a1) - (mn a0 a1)))) = some r := h
  clear h
  obtain ⟨ji3, hji3⟩ : ∃ j_ : Int, (mx a0 a1) = j_ := ⟨_, rfl⟩
  replace H : (some (wrap64 ((ji3) - (mn a0 a1)))) = some r := by first | (rw [hji3] at H; exact H) | (simp only [hji3] at H ⊢; exact H)
  have hji3_ : (if a0 < a1 then a1 else a0) = ji3 := hji3
  obtain ⟨ji4, hji4⟩ : ∃ j_ : Int, (mn a0 a1) = j_ := ⟨_, rfl⟩
  replace H : (some (wrap64 ((ji3) - (ji4)))) = some r := by first | (rw [hji4] at H; exact H) | (simp only [hji4] at H ⊢; exact H)
  have hji4_ : (if a1 < a0 then a1 else a0) = ji4 := hji4
  obtain rfl := Option.some.inj H
  go_enter Try.func107, Try.ntmps107
  go_wp2
  go_ret
  exact ⟨by first | rfl | (simp [errW_none, errW_some] <;> rfl) | (simp only [← hji3, ← hji4]; first | rfl | (simp [errW_none, errW_some] <;> rfl)) | (simp [*, errW_none, errW_some] <;> rfl), by repeat (first | (with_reducible first | exact HB.out | apply below_alloc | apply pw_below_drewN | apply below_drew1) | exact HB.out)⟩

/-! ### riverbankref05_half: function 122 -/
def riverbankref05_half.f (a0 : Int) (a1 : Int) (a2 : Int) (a3 : ByteArray) (a4 : Int) : Option (Bool) := if a1 > a0 then (if 0 ≤ (wrap64 (a2 + a4)) then (if (wrap64 (a2 + a4)) < (a3.size : Int) then (some ((bt a3 (wrap64 (a2 + a4))) == 46)) else (none)) else (none)) else (if 0 ≤ (wrap64 (a2 - a4)) then (if (wrap64 (a2 - a4)) < (a3.size : Int) then (some ((bt a3 (wrap64 (a2 - a4))) == 46)) else (none)) else (none))
set_option maxHeartbeats 8000000 in
set_option maxRecDepth 100000 in
theorem riverbankref05_half.calls (a0 : Int) (a1 : Int) (a2 : Int) (a3 : ByteArray) (a4 : Int) (r : Bool) (w : World) (h : riverbankref05_half.f a0 a1 a2 a3 a4 = some r) :
    Calls Try.prog 122 #[.int .i64 a0, .int .i64 a1, .int .i64 a2, .string a3, .int .i64 a4] w fun e w' => e = .returned (.bool r) ∧ Drawn0 w w' := by
  have H : (if a1 > a0 then (if 0 ≤ (wrap64 (a2 + a4)) then (if (wrap64 (a2 + a4)) < (a3.size : Int) then (some ((bt a3 (wrap64 (a2 + a4))) == 46)) else (none)) else (none)) else (if 0 ≤ (wrap64 (a2 - a4)) then (if (wrap64 (a2 - a4)) < (a3.size : Int) then (some ((bt a3 (wrap64 (a2 - a4))) == 46)) else (none)) else (none))) = some r := h
  clear h
  by_cases c6 : a1 > a0
  · rw [if_pos c6] at H
    have c6b0 : decide (a0 < a1) = true := decide_eq_true c6
    clear c6
    obtain ⟨ji7, hji7⟩ : ∃ j_ : Int, (wrap64 (a2 + a4)) = j_ := ⟨_, rfl⟩
    replace H : (if 0 ≤ (ji7) then (if (ji7) < (a3.size : Int) then (some ((bt a3 (ji7)) == 46)) else (none)) else (none)) = some r := by first | (rw [hji7] at H; exact H) | (simp only [hji7] at H ⊢; exact H)
    have hji7w : (IntKind.i64.wrap (a2 + a4)) = ji7 := (i64_w _).trans hji7
    by_cases c8 : 0 ≤ (ji7)
    · rw [if_pos c8] at H
      have c8b0 : decide (0 ≤ (ji7)) = true := decide_eq_true c8
      clear c8
      by_cases c9 : (ji7) < (a3.size : Int)
      · rw [if_pos c9] at H
        have c9b0 : decide ((ji7) < (a3.size : Int)) = true := decide_eq_true c9
        clear c9
        obtain rfl := Option.some.inj H
        have p10 : 0 ≤ ((ji7) : Int) := of_decide_eq_true (by first | (with_reducible assumption) | assumption)
        have q10 : (ji7) < (a3.size : Int) := of_decide_eq_true (by first | (with_reducible assumption) | assumption)
        have hx10 := bt_at a3 (ji7)
        replace p10 := eq_true p10
        replace q10 := eq_true q10
        go_enter Try.func122, Try.ntmps122
        go_wp2
        go_ret
        exact ⟨by first | rfl | (simp; done) | (simp only [← hji7] <;> (first | rfl | simp)) | (simp [*]; done), by repeat (first | exact Drawn0.refl _ | apply Drawn0.step)⟩
      · rw [if_neg c9] at H
        exact absurd H (by simp)
    · rw [if_neg c8] at H
      exact absurd H (by simp)
  · rw [if_neg c6] at H
    have c6b0 : decide (a0 < a1) = false := decide_eq_false c6
    clear c6
    obtain ⟨ji11, hji11⟩ : ∃ j_ : Int, (wrap64 (a2 - a4)) = j_ := ⟨_, rfl⟩
    replace H : (if 0 ≤ (ji11) then (if (ji11) < (a3.size : Int) then (some ((bt a3 (ji11)) == 46)) else (none)) else (none)) = some r := by first | (rw [hji11] at H; exact H) | (simp only [hji11] at H ⊢; exact H)
    have hji11w : (IntKind.i64.wrap (a2 - a4)) = ji11 := (i64_w _).trans hji11
    by_cases c12 : 0 ≤ (ji11)
    · rw [if_pos c12] at H
      have c12b0 : decide (0 ≤ (ji11)) = true := decide_eq_true c12
      clear c12
      by_cases c13 : (ji11) < (a3.size : Int)
      · rw [if_pos c13] at H
        have c13b0 : decide ((ji11) < (a3.size : Int)) = true := decide_eq_true c13
        clear c13
        obtain rfl := Option.some.inj H
        have p14 : 0 ≤ ((ji11) : Int) := of_decide_eq_true (by first | (with_reducible assumption) | assumption)
        have q14 : (ji11) < (a3.size : Int) := of_decide_eq_true (by first | (with_reducible assumption) | assumption)
        have hx14 := bt_at a3 (ji11)
        replace p14 := eq_true p14
        replace q14 := eq_true q14
        go_enter Try.func122, Try.ntmps122
        go_wp2
        go_ret
        exact ⟨by first | rfl | (simp; done) | (simp only [← hji11] <;> (first | rfl | simp)) | (simp [*]; done), by repeat (first | exact Drawn0.refl _ | apply Drawn0.step)⟩
      · rw [if_neg c13] at H
        exact absurd H (by simp)
    · rw [if_neg c12] at H
      exact absurd H (by simp)

/-! ### riverbankref05_horse: function 108 -/
def riverbankref05_horse.j0 : Nat → ByteArray → Int → Int → Int → Int → Bool → Option (Bool)
  | 0, _, _, _, _, _, _ => none
  | k + 1, x0, x1, x2, x7, x8, x24 => if x24 = true then ((riverbankref05_half.f (wrap64 (Int.tdiv x1 9)) (wrap64 (Int.tdiv x2 9)) x1 x0 9).bind fun t276 => (some t276)) else (if x7 = 2 then (if x8 = 1 then ((riverbankref05_half.f (Int.tmod x1 9) (Int.tmod x2 9) x1 x0 1).bind fun t277 => (some t277)) else (some false)) else (some false))
def riverbankref05_horse.f (k : Nat) (a0 : ByteArray) (a1 : Int) (a2 : Int) : Option (Bool) := (riverbankref05_away.f (Int.tmod a1 9) (Int.tmod a2 9)).bind fun t274 => ((riverbankref05_away.f (wrap64 (Int.tdiv a1 9)) (wrap64 (Int.tdiv a2 9))).bind fun t275 => (if t274 = 1 then (riverbankref05_horse.j0 k a0 a1 a2 t274 t275 (t275 == 2)) else (riverbankref05_horse.j0 k a0 a1 a2 t274 t275 false)))
theorem riverbankref05_horse.mono_l : ∀ k, (∀ y0 y1 y2 y3 y4 y5, LeO (riverbankref05_horse.j0 k y0 y1 y2 y3 y4 y5) (riverbankref05_horse.j0 (k + 1) y0 y1 y2 y3 y4 y5))
  | 0 => fun _ _ _ _ _ _ r h => by simp [riverbankref05_horse.j0] at h
  | k + 1 => by
    have ih0 := riverbankref05_horse.mono_l k
    · intro y0 y1 y2 y3 y4 y5
      unfold riverbankref05_horse.j0
      repeat' first
      | (with_reducible exact ih0 _ _ _ _ _ _)
      | (with_reducible exact LeO.refl _)
      | (with_reducible exact LeO.none _)
      | (with_reducible refine LeO.ite ?_ ?_)
      | (with_reducible refine LeO.bind ?_ (fun _ => ?_))
      | exact ih0 _ _ _ _ _ _
      | exact LeO.none _
      | refine LeO.ite ?_ ?_
      | refine LeO.bind ?_ (fun _ => ?_)
theorem riverbankref05_horse.mono : ∀ a0 a1 a2 k, LeO (riverbankref05_horse.f k a0 a1 a2) (riverbankref05_horse.f (k + 1) a0 a1 a2) := by
  intro a0 a1 a2 k
  have ih0 := riverbankref05_horse.mono_l k
  unfold riverbankref05_horse.f
  repeat' first
      | (with_reducible exact ih0 _ _ _ _ _ _)
      | (with_reducible exact LeO.refl _)
      | (with_reducible exact LeO.none _)
      | (with_reducible refine LeO.ite ?_ ?_)
      | (with_reducible refine LeO.bind ?_ (fun _ => ?_))
      | exact ih0 _ _ _ _ _ _
      | exact LeO.none _
      | refine LeO.ite ?_ ?_
      | refine LeO.bind ?_ (fun _ => ?_)
set_option maxHeartbeats 8000000 in
set_option maxRecDepth 100000 in
theorem riverbankref05_horse.calls (k : Nat) (a0 : ByteArray) (a1 : Int) (a2 : Int) (r : Bool) (w : World) (h : riverbankref05_horse.f k a0 a1 a2 = some r) :
    Calls Try.prog 108 #[.string a0, .int .i64 a1, .int .i64 a2] w fun e w' => e = .returned (.bool r) ∧ Below w.heap.size w w' := by
  have HB := Aside0.mk (Below.refl w.heap.size w)
  have H : ((riverbankref05_away.f (Int.tmod a1 9) (Int.tmod a2 9)).bind fun t274 => ((riverbankref05_away.f (wrap64 (Int.tdiv a1 9)) (wrap64 (Int.tdiv a2 9))).bind fun t275 => (if t274 = 1 then (riverbankref05_horse.j0 k a0 a1 a2 t274 t275 (t275 == 2)) else (riverbankref05_horse.j0 k a0 a1 a2 t274 t275 false)))) = some r := h
  clear h
  replace H := Option.bind_eq_some_iff.mp H
  obtain ⟨t274, A40, H⟩ := H
  replace H : ((riverbankref05_away.f (wrap64 (Int.tdiv a1 9)) (wrap64 (Int.tdiv a2 9))).bind fun t275 => (if t274 = 1 then (riverbankref05_horse.j0 k a0 a1 a2 t274 t275 (t275 == 2)) else (riverbankref05_horse.j0 k a0 a1 a2 t274 t275 false))) = some r := H
  have A4 := Aside0.mk A40
  clear A40
  replace H := Option.bind_eq_some_iff.mp H
  obtain ⟨t275, A50, H⟩ := H
  replace H : (if t274 = 1 then (riverbankref05_horse.j0 k a0 a1 a2 t274 t275 (t275 == 2)) else (riverbankref05_horse.j0 k a0 a1 a2 t274 t275 false)) = some r := H
  have A5 := Aside0.mk A50
  clear A50
  have HC6 := Aside0.mk H
  clear H
  go_enter Try.func108, Try.ntmps108
  go_upto_region 3 with (first | ((with_reducible refine gate_callee (f := 107) rfl ?_); refine goesL_ (some 13) rfl rfl Try.func107 (by kernel_rfl) rfl #[.int .i64 (Int.tmod a1 9), .int .i64 (Int.tmod a2 9)] rfl (by (try simp only [List.map_toArray, List.map_cons, List.map_nil]); first | done | rfl | (simp only [List.length_drop, List.length_take]; rfl)) ?_; (with_reducible refine (riverbankref05_away.calls (Int.tmod a1 9) (Int.tmod a2 9) t274 _ A4.out).mono ?_); rintro e w7 ⟨rfl, hb⟩; refine ⟨_, rfl, ?_⟩; have n0_ := Aside0.mk (below_step (by repeat (first | (with_reducible first | exact HB.out | apply below_alloc | apply pw_below_drewN | apply below_drew1) | exact HB.out)) hb); clear HB; have HB := n0_; clear n0_; (try clear hb); (try clear hb2); (try clear hk); (try clear hi)) | ((with_reducible refine gate_callee (f := 107) rfl ?_); refine goesL_ (some 18) rfl rfl Try.func107 (by kernel_rfl) rfl #[.int .i64 (wrap64 (Int.tdiv a1 9)), .int .i64 (wrap64 (Int.tdiv a2 9))] rfl (by (try simp only [List.map_toArray, List.map_cons, List.map_nil]); first | done | rfl | (simp only [List.length_drop, List.length_take]; rfl)) ?_; (with_reducible refine (riverbankref05_away.calls (wrap64 (Int.tdiv a1 9)) (wrap64 (Int.tdiv a2 9)) t275 _ A5.out).mono ?_); rintro e w8 ⟨rfl, hb⟩; refine ⟨_, rfl, ?_⟩; have n0_ := Aside0.mk (below_step (by repeat (first | (with_reducible first | exact HB.out | apply below_alloc | apply pw_below_drewN | apply below_drew1) | exact HB.out)) hb); clear HB; have HB := n0_; clear n0_; (try clear hb); (try clear hb2); (try clear hk); (try clear hi)))
  (try simp only [Act.put, List.setIfInBounds_toArray, List.set_cons_zero, List.set_cons_succ])
  go_cut [24] (fun v24 wc => ∃ (kq : Nat) (x24_5 : Bool), v24 = .bool x24_5 ∧ Aside0 (riverbankref05_horse.j0 kq a0 a1 a2 t274 t275 x24_5 = some r) ∧ Aside0 (kq ≤ k) ∧ Aside0 (Below w.heap.size w wc))
  case first =>
    have H := HC6.out
    clear HC6
    by_cases c9 : t274 = 1
    · rw [if_pos c9] at H
      have c9b0 : (t274 == 1) = true := beq_iff_eq.mpr c9
      have c9b1 : (t274 != 1) = false := bne_eq_false_iff_eq.mpr c9
      clear c9
      (first | rw [c9b0] | (simp only [i64_w, i32_w]; rw [c9b0]) | skip)
      have H' := Aside0.mk H
      clear H
      go_wp2
      go_meet
      case rel => exact ⟨_, ((t275 == 2)), (by first | rfl | (simp; done) | (simp [*]; done)), H', ⟨by first | omega | exact Nat.le_refl _⟩, ⟨by repeat (first | (with_reducible first | exact HB.out | apply below_alloc | apply pw_below_drewN | apply below_drew1) | exact HB.out)⟩⟩
    · rw [if_neg c9] at H
      have c9b0 : (t274 == 1) = false := beq_eq_false_iff_ne.mpr c9
      have c9b1 : (t274 != 1) = true := bne_iff_ne.mpr c9
      (first | rw [c9b0] | (simp only [i64_w, i32_w]; rw [c9b0]) | skip)
      have H' := Aside0.mk H
      clear H
      go_wp2
      go_meet
      case rel => exact ⟨_, (false), (by first | rfl | (simp; done) | (simp [*]; done)), H', ⟨by first | omega | exact Nat.le_refl _⟩, ⟨by repeat (first | (with_reducible first | exact HB.out | apply below_alloc | apply pw_below_drewN | apply below_drew1) | exact HB.out)⟩⟩
  case rest =>
    clear HC6
    try clear c1
    try clear p2
    try clear p6
    try clear c9
    try clear c9b0
    try clear c9b1
    obtain ⟨kq, x24_5, rfl, HA, HJ5, HB⟩ := hcut
    cases kq with
    | zero => exact absurd HA.out (by simp [riverbankref05_horse.j0])
    | succ kj5 =>
      have H := HA.out
      clear HA
      simp only [riverbankref05_horse.j0] at H
      by_cases c10 : x24_5 = true
      · subst c10
        have H1 : ((riverbankref05_half.f (wrap64 (Int.tdiv a1 9)) (wrap64 (Int.tdiv a2 9)) a1 a0 9).bind fun t276 => (some t276)) = some r := by rw [if_pos rfl] at H; exact H
        clear H
        have H := H1
        clear H1
        replace H := Option.bind_eq_some_iff.mp H
        obtain ⟨t276, A110, H⟩ := H
        replace H : (some t276) = some r := H
        have A11 := Aside0.mk A110
        clear A110
        obtain rfl := Option.some.inj H
        go_wp2_with (first | ((with_reducible refine gate_callee (f := 122) rfl ?_); refine goesL_ (some 31) rfl rfl Try.func122 (by kernel_rfl) rfl #[.int .i64 (wrap64 (Int.tdiv a1 9)), .int .i64 (wrap64 (Int.tdiv a2 9)), .int .i64 a1, .string a0, .int .i64 9] rfl (by (try simp only [List.map_toArray, List.map_cons, List.map_nil]); first | done | rfl | (simp only [List.length_drop, List.length_take]; rfl)) ?_; (with_reducible refine (riverbankref05_half.calls (wrap64 (Int.tdiv a1 9)) (wrap64 (Int.tdiv a2 9)) a1 a0 9 t276 _ A11.out).mono ?_); rintro e w' ⟨rfl, ⟨nd, rfl⟩⟩; refine ⟨_, rfl, ?_⟩))
        go_ret
        exact ⟨by first | rfl | (simp [errW_none, errW_some] <;> rfl) | (simp [*, errW_none, errW_some] <;> rfl), by repeat (first | (with_reducible first | exact HB.out | apply below_alloc | apply pw_below_drewN | apply below_drew1) | exact HB.out)⟩
      · replace c10 := Bool.eq_false_iff.mpr c10
        subst c10
        have H1 : (if t274 = 2 then (if t275 = 1 then ((riverbankref05_half.f (Int.tmod a1 9) (Int.tmod a2 9) a1 a0 1).bind fun t277 => (some t277)) else (some false)) else (some false)) = some r := by rw [if_neg (show ¬ (false = true) by decide)] at H; exact H
        clear H
        have H := H1
        clear H1
        by_cases c12 : t274 = 2
        · rw [if_pos c12] at H
          have c12b0 : (t274 == 2) = true := beq_iff_eq.mpr c12
          have c12b1 : (t274 != 2) = false := bne_eq_false_iff_eq.mpr c12
          clear c12
          by_cases c13 : t275 = 1
          · rw [if_pos c13] at H
            have c13b0 : (t275 == 1) = true := beq_iff_eq.mpr c13
            have c13b1 : (t275 != 1) = false := bne_eq_false_iff_eq.mpr c13
            clear c13
            replace H := Option.bind_eq_some_iff.mp H
            obtain ⟨t277, A140, H⟩ := H
            replace H : (some t277) = some r := H
            have A14 := Aside0.mk A140
            clear A140
            obtain rfl := Option.some.inj H
            go_wp2_with (first | ((with_reducible refine gate_callee (f := 122) rfl ?_); refine goesL_ (some 44) rfl rfl Try.func122 (by kernel_rfl) rfl #[.int .i64 (Int.tmod a1 9), .int .i64 (Int.tmod a2 9), .int .i64 a1, .string a0, .int .i64 1] rfl (by (try simp only [List.map_toArray, List.map_cons, List.map_nil]); first | done | rfl | (simp only [List.length_drop, List.length_take]; rfl)) ?_; (with_reducible refine (riverbankref05_half.calls (Int.tmod a1 9) (Int.tmod a2 9) a1 a0 1 t277 _ A14.out).mono ?_); rintro e w' ⟨rfl, ⟨nd, rfl⟩⟩; refine ⟨_, rfl, ?_⟩))
            go_ret
            exact ⟨by first | rfl | (simp [errW_none, errW_some] <;> rfl) | (simp [*, errW_none, errW_some] <;> rfl), by repeat (first | (with_reducible first | exact HB.out | apply below_alloc | apply pw_below_drewN | apply below_drew1) | exact HB.out)⟩
          · rw [if_neg c13] at H
            have c13b0 : (t275 == 1) = false := beq_eq_false_iff_ne.mpr c13
            have c13b1 : (t275 != 1) = true := bne_iff_ne.mpr c13
            obtain rfl := Option.some.inj H
            go_wp2
            go_ret
            exact ⟨by first | rfl | (simp [errW_none, errW_some] <;> rfl) | (simp [*, errW_none, errW_some] <;> rfl), by repeat (first | (with_reducible first | exact HB.out | apply below_alloc | apply pw_below_drewN | apply below_drew1) | exact HB.out)⟩
        · rw [if_neg c12] at H
          have c12b0 : (t274 == 2) = false := beq_eq_false_iff_ne.mpr c12
          have c12b1 : (t274 != 2) = true := bne_iff_ne.mpr c12
          obtain rfl := Option.some.inj H
          go_wp2
          go_ret
          exact ⟨by first | rfl | (simp [errW_none, errW_some] <;> rfl) | (simp [*, errW_none, errW_some] <;> rfl), by repeat (first | (with_reducible first | exact HB.out | apply below_alloc | apply pw_below_drewN | apply below_drew1) | exact HB.out)⟩

/-! ### riverbankref03_Over: function 123 -/
def riverbankref03_Over.f (a0 : Int) (a1 : Int) : Option (Bool) := (riverbankref03_real.f a0 a1).bind fun t278 => (if t278 = true then ((riverbankref03_own.f a0 a1).bind fun t279 => (some (decide (t279 ≥ 5)))) else (some false))
set_option maxHeartbeats 8000000 in
set_option maxRecDepth 100000 in
theorem riverbankref03_Over.calls (a0 : Int) (a1 : Int) (r : Bool) (w : World) (h : riverbankref03_Over.f a0 a1 = some r) :
    Calls Try.prog 123 #[.int .i64 a0, .int .i64 a1] w fun e w' => e = .returned (.bool r) ∧ Drawn0 w w' := by
  have H : ((riverbankref03_real.f a0 a1).bind fun t278 => (if t278 = true then ((riverbankref03_own.f a0 a1).bind fun t279 => (some (decide (t279 ≥ 5)))) else (some false))) = some r := h
  clear h
  replace H := Option.bind_eq_some_iff.mp H
  obtain ⟨t278, A30, H⟩ := H
  replace H : (if t278 = true then ((riverbankref03_own.f a0 a1).bind fun t279 => (some (decide (t279 ≥ 5)))) else (some false)) = some r := H
  have A3 := Aside0.mk A30
  clear A30
  by_cases c4 : t278 = true
  · subst c4
    have H1 : ((riverbankref03_own.f a0 a1).bind fun t279 => (some (decide (t279 ≥ 5)))) = some r := by rw [if_pos rfl] at H; exact H
    clear H
    have H := H1
    clear H1
    replace H := Option.bind_eq_some_iff.mp H
    obtain ⟨t279, A50, H⟩ := H
    replace H : (some (decide (t279 ≥ 5))) = some r := H
    have A5 := Aside0.mk A50
    clear A50
    obtain rfl := Option.some.inj H
    go_enter Try.func123, Try.ntmps123
    go_wp2_with (first | ((with_reducible refine gate_callee (f := 84) rfl ?_); refine goesL_ (some 7) rfl rfl Try.func84 (by kernel_rfl) rfl #[.int .i64 a0, .int .i64 a1] rfl (by (try simp only [List.map_toArray, List.map_cons, List.map_nil]); first | done | rfl | (simp only [List.length_drop, List.length_take]; rfl)) ?_; (with_reducible refine (riverbankref03_real.calls a0 a1 true _ A3.out).mono ?_); rintro e w' ⟨rfl, ⟨nd, rfl⟩⟩; refine ⟨_, rfl, ?_⟩) | (go_at_call 86; (with_reducible refine (riverbankref03_own.calls a0 a1 t279 _ A5.out).mono ?_); rintro e w' ⟨rfl, ⟨nd, rfl⟩⟩))
    go_ret
    exact ⟨by first | rfl | (simp; done) | (simp [*]; done), by repeat (first | exact Drawn0.refl _ | apply Drawn0.step)⟩
  · replace c4 := Bool.eq_false_iff.mpr c4
    subst c4
    have H1 : (some false) = some r := by rw [if_neg (show ¬ (false = true) by decide)] at H; exact H
    clear H
    have H := H1
    clear H1
    obtain rfl := Option.some.inj H
    go_enter Try.func123, Try.ntmps123
    go_wp2_with (first | ((with_reducible refine gate_callee (f := 84) rfl ?_); refine goesL_ (some 7) rfl rfl Try.func84 (by kernel_rfl) rfl #[.int .i64 a0, .int .i64 a1] rfl (by (try simp only [List.map_toArray, List.map_cons, List.map_nil]); first | done | rfl | (simp only [List.length_drop, List.length_take]; rfl)) ?_; (with_reducible refine (riverbankref03_real.calls a0 a1 false _ A3.out).mono ?_); rintro e w' ⟨rfl, ⟨nd, rfl⟩⟩; refine ⟨_, rfl, ?_⟩))
    go_ret
    exact ⟨by first | rfl | (simp; done) | (simp [*]; done), by repeat (first | exact Drawn0.refl _ | apply Drawn0.step)⟩

end Go.Proofs.Ytcanbidenhcohaa.P

/- Walks of Go functions, one Lean function and one contract for each, written by a program of this session out of the translation. -/
namespace Go.Proofs.Ytcanbidenhcohaa.P
open Go.RowKit Go.Proofs.YtcanbidenhcohaaW.PrintWords Go.Proofs.YtcanbidenhcohaaW.PrintLast Go.Proofs.YtcanbidenhcohaaW.PrintMore
attribute [local go_sem] max2_int min2_int max_two min_two max_three min_three max_four min_four   -- for this text's walks alone
set_option linter.unusedVariables false
set_option linter.unusedSimpArgs false

/-! ### riverbankref05_pawn: function 109 -/
def riverbankref05_pawn.j0 : Nat → Int → Int → Int → Int → Option (Bool)
  | 0, _, _, _, _ => none
  | k + 1, x0, x1, x2, x7 => if x2 = (wrap64 (x1 + x7)) then (some true) else ((riverbankref03_Over.f x1 x0).bind fun t280 => (if t280 = true then (if (wrap64 (Int.tdiv x1 9)) = (wrap64 (Int.tdiv x2 9)) then ((riverbankref05_away.f x1 x2).bind fun t281 => (some (t281 == 1))) else (some false)) else (some false)))
def riverbankref05_pawn.f (k : Nat) (a0 : Int) (a1 : Int) (a2 : Int) : Option (Bool) := if a0 = 1 then (riverbankref05_pawn.j0 k a0 a1 a2 (-9)) else (riverbankref05_pawn.j0 k a0 a1 a2 9)
theorem riverbankref05_pawn.mono_l : ∀ k, (∀ y0 y1 y2 y3, LeO (riverbankref05_pawn.j0 k y0 y1 y2 y3) (riverbankref05_pawn.j0 (k + 1) y0 y1 y2 y3))
  | 0 => fun _ _ _ _ r h => by simp [riverbankref05_pawn.j0] at h
  | k + 1 => by
    have ih0 := riverbankref05_pawn.mono_l k
    · intro y0 y1 y2 y3
      unfold riverbankref05_pawn.j0
      repeat' first
      | (with_reducible exact ih0 _ _ _ _)
      | (with_reducible exact LeO.refl _)
      | (with_reducible exact LeO.none _)
      | (with_reducible refine LeO.ite ?_ ?_)
      | (with_reducible refine LeO.bind ?_ (fun _ => ?_))
      | exact ih0 _ _ _ _
      | exact LeO.none _
      | refine LeO.ite ?_ ?_
      | refine LeO.bind ?_ (fun _ => ?_)
theorem riverbankref05_pawn.mono : ∀ a0 a1 a2 k, LeO (riverbankref05_pawn.f k a0 a1 a2) (riverbankref05_pawn.f (k + 1) a0 a1 a2) := by
  intro a0 a1 a2 k
  have ih0 := riverbankref05_pawn.mono_l k
  unfold riverbankref05_pawn.f
  repeat' first
      | (with_reducible exact ih0 _ _ _ _)
      | (with_reducible exact LeO.refl _)
      | (with_reducible exact LeO.none _)
      | (with_reducible refine LeO.ite ?_ ?_)
      | (with_reducible refine LeO.bind ?_ (fun _ => ?_))
      | exact ih0 _ _ _ _
      | exact LeO.none _
      | refine LeO.ite ?_ ?_
      | refine LeO.bind ?_ (fun _ => ?_)
set_option maxHeartbeats 8000000 in
set_option maxRecDepth 100000 in
theorem riverbankref05_pawn.calls (k : Nat) (a0 : Int) (a1 : Int) (a2 : Int) (r : Bool) (w : World) (h : riverbankref05_pawn.f k a0 a1 a2 = some r) :
    Calls Try.prog 109 #[.int .i64 a0, .int .i64 a1, .int .i64 a2] w fun e w' => e = .returned (.bool r) ∧ Below w.heap.size w w' := by
  have HB := Aside0.mk (Below.refl w.heap.size w)
  have H : (if a0 = 1 then (riverbankref05_pawn.j0 k a0 a1 a2 (-9)) else (riverbankref05_pawn.j0 k a0 a1 a2 9)) = some r := h
  clear h
  have HC4 := Aside0.mk H
  clear H
  go_enter Try.func109, Try.ntmps109
  go_upto_if 9 with (fail)
  go_cut [7] (fun v7 wc => ∃ (kq : Nat) (x7_3 : Int), v7 = .int .i64 x7_3 ∧ Aside0 (riverbankref05_pawn.j0 kq a0 a1 a2 x7_3 = some r) ∧ Aside0 (kq ≤ k) ∧ Aside0 (Below w.heap.size w wc))
  case first =>
    have H := HC4.out
    clear HC4
    by_cases c5 : a0 = 1
    · rw [if_pos c5] at H
      have c5b0 : (a0 == 1) = true := beq_iff_eq.mpr c5
      have c5b1 : (a0 != 1) = false := bne_eq_false_iff_eq.mpr c5
      clear c5
      (first | rw [c5b0] | (simp only [i64_w, i32_w]; rw [c5b0]) | skip)
      have H' := Aside0.mk H
      clear H
      go_wp2
      go_meet
      case rel => exact ⟨_, ((-9)), (by first | rfl | (simp; done) | (simp [*]; done)), H', ⟨by first | omega | exact Nat.le_refl _⟩, ⟨by repeat (first | (with_reducible first | exact HB.out | apply below_alloc | apply pw_below_drewN | apply below_drew1) | exact HB.out)⟩⟩
    · rw [if_neg c5] at H
      have c5b0 : (a0 == 1) = false := beq_eq_false_iff_ne.mpr c5
      have c5b1 : (a0 != 1) = true := bne_iff_ne.mpr c5
      (first | rw [c5b0] | (simp only [i64_w, i32_w]; rw [c5b0]) | skip)
      have H' := Aside0.mk H
      clear H
      go_wp2
      go_meet
      case rel => exact ⟨_, (9), (by first | rfl | (simp; done) | (simp [*]; done)), H', ⟨by first | omega | exact Nat.le_refl _⟩, ⟨by repeat (first | (with_reducible first | exact HB.out | apply below_alloc | apply pw_below_drewN | apply below_drew1) | exact HB.out)⟩⟩
  case rest =>
    clear HC4
    try clear c1
    try clear p2
    try clear c5
    try clear c5b0
    try clear c5b1
    obtain ⟨kq, x7_3, rfl, HA, HJ3, HB⟩ := hcut
    cases kq with
    | zero => exact absurd HA.out (by simp [riverbankref05_pawn.j0])
    | succ kj3 =>
      have H := HA.out
      clear HA
      simp only [riverbankref05_pawn.j0] at H
      by_cases c6 : a2 = (wrap64 (a1 + x7_3))
      · rw [if_pos c6] at H
        have c6b0 : (a2 == (wrap64 (a1 + x7_3))) = true := beq_iff_eq.mpr c6
        have c6b1 : (a2 != (wrap64 (a1 + x7_3))) = false := bne_eq_false_iff_eq.mpr c6
        clear c6
        obtain rfl := Option.some.inj H
        go_wp2
        go_ret
        exact ⟨by first | rfl | (simp [errW_none, errW_some] <;> rfl) | (simp [*, errW_none, errW_some] <;> rfl), by repeat (first | (with_reducible first | exact HB.out | apply below_alloc | apply pw_below_drewN | apply below_drew1) | exact HB.out)⟩
      · rw [if_neg c6] at H
        have c6b0 : (a2 == (wrap64 (a1 + x7_3))) = false := beq_eq_false_iff_ne.mpr c6
        have c6b1 : (a2 != (wrap64 (a1 + x7_3))) = true := bne_iff_ne.mpr c6
        replace H := Option.bind_eq_some_iff.mp H
        obtain ⟨t280, A70, H⟩ := H
        replace H : (if t280 = true then (if (wrap64 (Int.tdiv a1 9)) = (wrap64 (Int.tdiv a2 9)) then ((riverbankref05_away.f a1 a2).bind fun t281 => (some (t281 == 1))) else (some false)) else (some false)) = some r := H
        have A7 := Aside0.mk A70
        clear A70
        by_cases c8 : t280 = true
        · subst c8
          have H1 : (if (wrap64 (Int.tdiv a1 9)) = (wrap64 (Int.tdiv a2 9)) then ((riverbankref05_away.f a1 a2).bind fun t281 => (some (t281 == 1))) else (some false)) = some r := by rw [if_pos rfl] at H; exact H
          clear H
          have H := H1
          clear H1
          by_cases c9 : (wrap64 (Int.tdiv a1 9)) = (wrap64 (Int.tdiv a2 9))
          · rw [if_pos c9] at H
            have c9b0 : ((wrap64 (Int.tdiv a1 9)) == (wrap64 (Int.tdiv a2 9))) = true := beq_iff_eq.mpr c9
            have c9b1 : ((wrap64 (Int.tdiv a1 9)) != (wrap64 (Int.tdiv a2 9))) = false := bne_eq_false_iff_eq.mpr c9
            clear c9
            replace H := Option.bind_eq_some_iff.mp H
            obtain ⟨t281, A100, H⟩ := H
            replace H : (some (t281 == 1)) = some r := H
            have A10 := Aside0.mk A100
            clear A100
            obtain rfl := Option.some.inj H
            go_wp2_with (first | ((with_reducible refine gate_callee (f := 123) rfl ?_); refine goesL_ (some 17) rfl rfl Try.func123 (by kernel_rfl) rfl #[.int .i64 a1, .int .i64 a0] rfl (by (try simp only [List.map_toArray, List.map_cons, List.map_nil]); first | done | rfl | (simp only [List.length_drop, List.length_take]; rfl)) ?_; (with_reducible refine (riverbankref03_Over.calls a1 a0 true _ A7.out).mono ?_); rintro e w' ⟨rfl, ⟨nd, rfl⟩⟩; refine ⟨_, rfl, ?_⟩) | (go_at_call 107; (with_reducible refine (riverbankref05_away.calls a1 a2 t281 _ A10.out).mono ?_); rintro e w11 ⟨rfl, hb⟩; have n0_ := Aside0.mk (below_step (by repeat (first | (with_reducible first | exact HB.out | apply below_alloc | apply pw_below_drewN | apply below_drew1) | exact HB.out)) hb); clear HB; have HB := n0_; clear n0_; (try clear hb); (try clear hb2); (try clear hk); (try clear hi)))
            go_ret
            exact ⟨by first | rfl | (simp [errW_none, errW_some] <;> rfl) | (simp [*, errW_none, errW_some] <;> rfl), by repeat (first | (with_reducible first | exact HB.out | apply below_alloc | apply pw_below_drewN | apply below_drew1) | exact HB.out)⟩
          · rw [if_neg c9] at H
            have c9b0 : ((wrap64 (Int.tdiv a1 9)) == (wrap64 (Int.tdiv a2 9))) = false := beq_eq_false_iff_ne.mpr c9
            have c9b1 : ((wrap64 (Int.tdiv a1 9)) != (wrap64 (Int.tdiv a2 9))) = true := bne_iff_ne.mpr c9
            obtain rfl := Option.some.inj H
            go_wp2_with (first | ((with_reducible refine gate_callee (f := 123) rfl ?_); refine goesL_ (some 17) rfl rfl Try.func123 (by kernel_rfl) rfl #[.int .i64 a1, .int .i64 a0] rfl (by (try simp only [List.map_toArray, List.map_cons, List.map_nil]); first | done | rfl | (simp only [List.length_drop, List.length_take]; rfl)) ?_; (with_reducible refine (riverbankref03_Over.calls a1 a0 true _ A7.out).mono ?_); rintro e w' ⟨rfl, ⟨nd, rfl⟩⟩; refine ⟨_, rfl, ?_⟩))
            go_ret
            exact ⟨by first | rfl | (simp [errW_none, errW_some] <;> rfl) | (simp [*, errW_none, errW_some] <;> rfl), by repeat (first | (with_reducible first | exact HB.out | apply below_alloc | apply pw_below_drewN | apply below_drew1) | exact HB.out)⟩
        · replace c8 := Bool.eq_false_iff.mpr c8
          subst c8
          have H1 : (some false) = some r := by rw [if_neg (show ¬ (false = true) by decide)] at H; exact H
          clear H
          have H := H1
          clear H1
          obtain rfl := Option.some.inj H
          go_wp2_with (first | ((with_reducible refine gate_callee (f := 123) rfl ?_); refine goesL_ (some 17) rfl rfl Try.func123 (by kernel_rfl) rfl #[.int .i64 a1, .int .i64 a0] rfl (by (try simp only [List.map_toArray, List.map_cons, List.map_nil]); first | done | rfl | (simp only [List.length_drop, List.length_take]; rfl)) ?_; (with_reducible refine (riverbankref03_Over.calls a1 a0 false _ A7.out).mono ?_); rintro e w' ⟨rfl, ⟨nd, rfl⟩⟩; refine ⟨_, rfl, ?_⟩))
          go_ret
          exact ⟨by first | rfl | (simp [errW_none, errW_some] <;> rfl) | (simp [*, errW_none, errW_some] <;> rfl), by repeat (first | (with_reducible first | exact HB.out | apply below_alloc | apply pw_below_drewN | apply below_drew1) | exact HB.out)⟩

/-! ### riverbankref05_can: function 79 -/
def riverbankref05_can.f (k : Nat) (a0 : ByteArray) (a1 : Int) (a2 : Int) : Option (Bool) := if 0 ≤ a1 then (if a1 < (a0.size : Int) then ((riverbankref05_away.f (Int.tmod a1 9) (Int.tmod a2 9)).bind fun t282 => ((riverbankref05_away.f (wrap64 (Int.tdiv a1 9)) (wrap64 (Int.tdiv a2 9))).bind fun t283 => ((riverbankref02_Kind.f k (bt a0 a1)).bind fun t284 => (if t284 = 75 then (if (wrap64 (t282 + t283)) = 1 then ((riverbankref03_May.f k (bt a0 a1) a2).bind fun t285 => (some t285)) else (some false)) else (if t284 = 65 then (if t282 = 1 then (if t283 = 1 then ((riverbankref03_May.f k (bt a0 a1) a2).bind fun t286 => (some t286)) else (some false)) else (some false)) else (if t284 = 66 then (if t282 = 2 then (if t283 = 2 then ((riverbankref03_May.f k (bt a0 a1) a2).bind fun t287 => (if t287 = true then (if 0 ≤ (wrap64 (Int.tdiv (wrap64 (a1 + a2)) 2)) then (if (wrap64 (Int.tdiv (wrap64 (a1 + a2)) 2)) < (a0.size : Int) then (some ((bt a0 (wrap64 (Int.tdiv (wrap64 (a1 + a2)) 2))) == 46)) else (none)) else (none)) else (some false))) else (some false)) else (some false)) else (if t284 = 78 then ((riverbankref05_horse.f k a0 a1 a2).bind fun t288 => (some t288)) else (if t284 = 82 then ((riverbankref05_between.f k a0 a1 a2).bind fun t289 => (some (t289 == 0))) else (if t284 = 67 then ((riverbankref05_between.f k a0 a1 a2).bind fun t290 => (if t290 = 0 then (if 0 ≤ a2 then (if a2 < (a0.size : Int) then (if (bt a0 a2) = 46 then (some true) else (if t290 = 1 then (some ((bt a0 a2) != 46)) else (some false))) else (none)) else (none)) else (if t290 = 1 then (if 0 ≤ a2 then (if a2 < (a0.size : Int) then (some ((bt a0 a2) != 46)) else (none)) else (none)) else (some false)))) else ((riverbankref02_Side.f k (bt a0 a1)).bind fun t291 => ((riverbankref05_pawn.f k t291 a1 a2).bind fun t292 => (some t292)))))))))))) else (none)) else (none)
theorem riverbankref05_can.mono : ∀ a0 a1 a2 k, LeO (riverbankref05_can.f k a0 a1 a2) (riverbankref05_can.f (k + 1) a0 a1 a2) := by
  intro a0 a1 a2 k
  unfold riverbankref05_can.f
  repeat' first
      | (with_reducible exact riverbankref02_Kind.mono _ _)
      | (with_reducible exact riverbankref02_Side.mono _ _)
      | (with_reducible exact riverbankref03_May.mono _ _ _)
      | (with_reducible exact riverbankref05_between.mono _ _ _ _)
      | (with_reducible exact riverbankref05_horse.mono _ _ _ _)
      | (with_reducible exact riverbankref05_pawn.mono _ _ _ _)
      | (with_reducible exact LeO.refl _)
      | (with_reducible exact LeO.none _)
      | (with_reducible refine LeO.ite ?_ ?_)
      | (with_reducible refine LeO.bind ?_ (fun _ => ?_))
      | exact riverbankref02_Kind.mono _ _
      | exact riverbankref02_Side.mono _ _
      | exact riverbankref03_May.mono _ _ _
      | exact riverbankref05_between.mono _ _ _ _
      | exact riverbankref05_horse.mono _ _ _ _
      | exact riverbankref05_pawn.mono _ _ _ _
      | exact LeO.none _
      | refine LeO.ite ?_ ?_
      | refine LeO.bind ?_ (fun _ => ?_)
set_option maxHeartbeats 8000000 in
set_option maxRecDepth 100000 in
theorem riverbankref05_can.calls (k : Nat) (a0 : ByteArray) (a1 : Int) (a2 : Int) (r : Bool) (w : World) (h : riverbankref05_can.f k a0 a1 a2 = some r) :
    Calls Try.prog 79 #[.string a0, .int .i64 a1, .int .i64 a2] w fun e w' => e = .returned (.bool r) ∧ Below w.heap.size w w' := by
  have HB := Aside0.mk (Below.refl w.heap.size w)
  have H : (if 0 ≤ a1 then (if a1 < (a0.size : Int) then ((riverbankref05_away.f (Int.tmod a1 9) (Int.tmod a2 9)).bind fun t282 => ((riverbankref05_away.f (wrap64 (Int.tdiv a1 9)) (wrap64 (Int.tdiv a2 9))).bind fun t283 => ((riverbankref02_Kind.f k (bt a0 a1)).bind fun t284 => (if t284 = 75 then (if (wrap64 (t282 + t283)) = 1 then ((riverbankref03_May.f k (bt a0 a1) a2).bind fun t285 => (some t285)) else (some false)) else (if t284 = 65 then (if t282 = 1 then (if t283 = 1 then ((riverbankref03_May.f k (bt a0 a1) a2).bind fun t286 => (some t286)) else (some false)) else (some false)) else (if t284 = 66 then (if t282 = 2 then (if t283 = 2 then ((riverbankref03_May.f k (bt a0 a1) a2).bind fun t287 => (if t287 = true then (if 0 ≤ (wrap64 (Int.tdiv (wrap64 (a1 + a2)) 2)) then (if (wrap64 (Int.tdiv (wrap64 (a1 + a2)) 2)) < (a0.size : Int) then (some ((bt a0 (wrap64 (Int.tdiv (wrap64 (a1 + a2)) 2))) == 46)) else (none)) else (none)) else (some false))) else (some false)) else (some false)) else (if t284 = 78 then ((riverbankref05_horse.f k a0 a1 a2).bind fun t288 => (some t288)) else (if t284 = 82 then ((riverbankref05_between.f k a0 a1 a2).bind fun t289 => (some (t289 == 0))) else (if t284 = 67 then ((riverbankref05_between.f k a0 a1 a2).bind fun t290 => (if t290 = 0 then (if 0 ≤ a2 then (if a2 < (a0.size : Int) then (if (bt a0 a2) = 46 then (some true) else (if t290 = 1 then (some ((bt a0 a2) != 46)) else (some false))) else (none)) else (none)) else (if t290 = 1 then (if 0 ≤ a2 then (if a2 < (a0.size : Int) then (some ((bt a0 a2) != 46)) else (none)) else (none)) else (some false)))) else ((riverbankref02_Side.f k (bt a0 a1)).bind fun t291 => ((riverbankref05_pawn.f k t291 a1 a2).bind fun t292 => (some t292)))))))))))) else (none)) else (none)) = some r := h
  clear h
  by_cases c4 : 0 ≤ a1
  · rw [if_pos c4] at H
    have c4b0 : decide (0 ≤ a1) = true := decide_eq_true c4
    clear c4
    by_cases c5 : a1 < (a0.size : Int)
    · rw [if_pos c5] at H
      have c5b0 : decide (a1 < (a0.size : Int)) = true := decide_eq_true c5
      clear c5
      replace H := Option.bind_eq_some_iff.mp H
      obtain ⟨t282, A70, H⟩ := H
      replace H : ((riverbankref05_away.f (wrap64 (Int.tdiv a1 9)) (wrap64 (Int.tdiv a2 9))).bind fun t283 => ((riverbankref02_Kind.f k (bt a0 a1)).bind fun t284 => (if t284 = 75 then (if (wrap64 (t282 + t283)) = 1 then ((riverbankref03_May.f k (bt a0 a1) a2).bind fun t285 => (some t285)) else (some false)) else (if t284 = 65 then (if t282 = 1 then (if t283 = 1 then ((riverbankref03_May.f k (bt a0 a1) a2).bind fun t286 => (some t286)) else (some false)) else (some false)) else (if t284 = 66 then (if t282 = 2 then (if t283 = 2 then ((riverbankref03_May.f k (bt a0 a1) a2).bind fun t287 => (if t287 = true then (if 0 ≤ (wrap64 (Int.tdiv (wrap64 (a1 + a2)) 2)) then (if (wrap64 (Int.tdiv (wrap64 (a1 + a2)) 2)) < (a0.size : Int) then (some ((bt a0 (wrap64 (Int.tdiv (wrap64 (a1 + a2)) 2))) == 46)) else (none)) else (none)) else (some false))) else (some false)) else (some false)) else (if t284 = 78 then ((riverbankref05_horse.f k a0 a1 a2).bind fun t288 => (some t288)) else (if t284 = 82 then ((riverbankref05_between.f k a0 a1 a2).bind fun t289 => (some (t289 == 0))) else (if t284 = 67 then ((riverbankref05_between.f k a0 a1 a2).bind fun t290 => (if t290 = 0 then (if 0 ≤ a2 then (if a2 < (a0.size : Int) then (if (bt a0 a2) = 46 then (some true) else (if t290 = 1 then (some ((bt a0 a2) != 46)) else (some false))) else (none)) else (none)) else (if t290 = 1 then (if 0 ≤ a2 then (if a2 < (a0.size : Int) then (some ((bt a0 a2) != 46)) else (none)) else (none)) else (some false)))) else ((riverbankref02_Side.f k (bt a0 a1)).bind fun t291 => ((riverbankref05_pawn.f k t291 a1 a2).bind fun t292 => (some t292))))))))))) = some r := H
      have A7 := Aside0.mk A70
      clear A70
      replace H := Option.bind_eq_some_iff.mp H
      obtain ⟨t283, A80, H⟩ := H
      replace H : ((riverbankref02_Kind.f k (bt a0 a1)).bind fun t284 => (if t284 = 75 then (if (wrap64 (t282 + t283)) = 1 then ((riverbankref03_May.f k (bt a0 a1) a2).bind fun t285 => (some t285)) else (some false)) else (if t284 = 65 then (if t282 = 1 then (if t283 = 1 then ((riverbankref03_May.f k (bt a0 a1) a2).bind fun t286 => (some t286)) else (some false)) else (some false)) else (if t284 = 66 then (if t282 = 2 then (if t283 = 2 then ((riverbankref03_May.f k (bt a0 a1) a2).bind fun t287 => (if t287 = true then (if 0 ≤ (wrap64 (Int.tdiv (wrap64 (a1 + a2)) 2)) then (if (wrap64 (Int.tdiv (wrap64 (a1 + a2)) 2)) < (a0.size : Int) then (some ((bt a0 (wrap64 (Int.tdiv (wrap64 (a1 + a2)) 2))) == 46)) else (none)) else (none)) else (some false))) else (some false)) else (some false)) else (if t284 = 78 then ((riverbankref05_horse.f k a0 a1 a2).bind fun t288 => (some t288)) else (if t284 = 82 then ((riverbankref05_between.f k a0 a1 a2).bind fun t289 => (some (t289 == 0))) else (if t284 = 67 then ((riverbankref05_between.f k a0 a1 a2).bind fun t290 => (if t290 = 0 then (if 0 ≤ a2 then (if a2 < (a0.size : Int) then (if (bt a0 a2) = 46 then (some true) else (if t290 = 1 then (some ((bt a0 a2) != 46)) else (some false))) else (none)) else (none)) else (if t290 = 1 then (if 0 ≤ a2 then (if a2 < (a0.size : Int) then (some ((bt a0 a2) != 46)) else (none)) else (none)) else (some false)))) else ((riverbankref02_Side.f k (bt a0 a1)).bind fun t291 => ((riverbankref05_pawn.f k t291 a1 a2).bind fun t292 => (some t292)))))))))) = some r := H
      have A8 := Aside0.mk A80
      clear A80
      replace H := Option.bind_eq_some_iff.mp H
      obtain ⟨t284, A90, H⟩ := H
      replace H : (if t284 = 75 then (if (wrap64 (t282 + t283)) = 1 then ((riverbankref03_May.f k (bt a0 a1) a2).bind fun t285 => (some t285)) else (some false)) else (if t284 = 65 then (if t282 = 1 then (if t283 = 1 then ((riverbankref03_May.f k (bt a0 a1) a2).bind fun t286 => (some t286)) else (some false)) else (some false)) else (if t284 = 66 then (if t282 = 2 then (if t283 = 2 then ((riverbankref03_May.f k (bt a0 a1) a2).bind fun t287 => (if t287 = true then (if 0 ≤ (wrap64 (Int.tdiv (wrap64 (a1 + a2)) 2)) then (if (wrap64 (Int.tdiv (wrap64 (a1 + a2)) 2)) < (a0.size : Int) then (some ((bt a0 (wrap64 (Int.tdiv (wrap64 (a1 + a2)) 2))) == 46)) else (none)) else (none)) else (some false))) else (some false)) else (some false)) else (if t284 = 78 then ((riverbankref05_horse.f k a0 a1 a2).bind fun t288 => (some t288)) else (if t284 = 82 then ((riverbankref05_between.f k a0 a1 a2).bind fun t289 => (some (t289 == 0))) else (if t284 = 67 then ((riverbankref05_between.f k a0 a1 a2).bind fun t290 => (if t290 = 0 then (if 0 ≤ a2 then (if a2 < (a0.size : Int) then (if (bt a0 a2) = 46 then (some true) else (if t290 = 1 then (some ((bt a0 a2) != 46)) else (some false))) else (none)) else (none)) else (if t290 = 1 then (if 0 ≤ a2 then (if a2 < (a0.size : Int) then (some ((bt a0 a2) != 46)) else (none)) else (none)) else (some false)))) else ((riverbankref02_Side.f k (bt a0 a1)).bind fun t291 => ((riverbankref05_pawn.f k t291 a1 a2).bind fun t292 => (some t292))))))))) = some r := H
      have A9 := Aside0.mk A90
      clear A90
      by_cases c10 : t284 = 75
      · rw [if_pos c10] at H
        have c10b0 : (t284 == 75) = true := beq_iff_eq.mpr c10
        have c10b1 : (t284 != 75) = false := bne_eq_false_iff_eq.mpr c10
        clear c10
        by_cases c11 : (wrap64 (t282 + t283)) = 1
        · rw [if_pos c11] at H
          have c11b0 : ((wrap64 (t282 + t283)) == 1) = true := beq_iff_eq.mpr c11
          have c11b1 : ((wrap64 (t282 + t283)) != 1) = false := bne_eq_false_iff_eq.mpr c11
          clear c11
          replace H := Option.bind_eq_some_iff.mp H
          obtain ⟨t285, A120, H⟩ := H
          replace H : (some t285) = some r := H
          have A12 := Aside0.mk A120
          clear A120
          obtain rfl := Option.some.inj H
          have p6 : 0 ≤ (a1 : Int) := of_decide_eq_true (by first | (with_reducible assumption) | assumption)
          have q6 : a1 < (a0.size : Int) := of_decide_eq_true (by first | (with_reducible assumption) | assumption)
          have hx6 := bt_at a0 a1
          replace p6 := eq_true p6
          replace q6 := eq_true q6
          go_enter Try.func79, Try.ntmps79
          go_wp2_with (first | ((with_reducible refine gate_callee (f := 107) rfl ?_); refine goesL_ (some 18) rfl rfl Try.func107 (by kernel_rfl) rfl #[.int .i64 (Int.tmod a1 9), .int .i64 (Int.tmod a2 9)] rfl (by (try simp only [List.map_toArray, List.map_cons, List.map_nil]); first | done | rfl | (simp only [List.length_drop, List.length_take]; rfl)) ?_; (with_reducible refine (riverbankref05_away.calls (Int.tmod a1 9) (Int.tmod a2 9) t282 _ A7.out).mono ?_); rintro e w13 ⟨rfl, hb⟩; refine ⟨_, rfl, ?_⟩; have n0_ := Aside0.mk (below_step (by repeat (first | (with_reducible first | exact HB.out | apply below_alloc | apply pw_below_drewN | apply below_drew1) | exact HB.out)) hb); clear HB; have HB := n0_; clear n0_; (try clear hb); (try clear hb2); (try clear hk); (try clear hi)) | ((with_reducible refine gate_callee (f := 107) rfl ?_); refine goesL_ (some 23) rfl rfl Try.func107 (by kernel_rfl) rfl #[.int .i64 (wrap64 (Int.tdiv a1 9)), .int .i64 (wrap64 (Int.tdiv a2 9))] rfl (by (try simp only [List.map_toArray, List.map_cons, List.map_nil]); first | done | rfl | (simp only [List.length_drop, List.length_take]; rfl)) ?_; (with_reducible refine (riverbankref05_away.calls (wrap64 (Int.tdiv a1 9)) (wrap64 (Int.tdiv a2 9)) t283 _ A8.out).mono ?_); rintro e w14 ⟨rfl, hb⟩; refine ⟨_, rfl, ?_⟩; have n0_ := Aside0.mk (below_step (by repeat (first | (with_reducible first | exact HB.out | apply below_alloc | apply pw_below_drewN | apply below_drew1) | exact HB.out)) hb); clear HB; have HB := n0_; clear n0_; (try clear hb); (try clear hb2); (try clear hk); (try clear hi)) | ((with_reducible refine gate_callee (f := 33) rfl ?_); refine goesL_ (some 25) rfl rfl Try.func33 (by kernel_rfl) rfl #[.int .u8 (bt a0 a1)] rfl (by (try simp only [List.map_toArray, List.map_cons, List.map_nil]); first | done | rfl | (simp only [List.length_drop, List.length_take]; rfl)) ?_; (with_reducible refine (riverbankref02_Kind.calls k (bt a0 a1) t284 _ A9.out).mono ?_); rintro e w' ⟨rfl, ⟨nd, rfl⟩⟩; refine ⟨_, rfl, ?_⟩) | (go_at_call 67; (with_reducible refine (riverbankref03_May.calls k (bt a0 a1) a2 t285 _ A12.out).mono ?_); rintro e w' ⟨rfl, ⟨nd, rfl⟩⟩))
          go_ret
          exact ⟨by first | rfl | (simp [errW_none, errW_some] <;> rfl) | (simp [*, errW_none, errW_some] <;> rfl), by repeat (first | (with_reducible first | exact HB.out | apply below_alloc | apply pw_below_drewN | apply below_drew1) | exact HB.out)⟩
        · rw [if_neg c11] at H
          have c11b0 : ((wrap64 (t282 + t283)) == 1) = false := beq_eq_false_iff_ne.mpr c11
          have c11b1 : ((wrap64 (t282 + t283)) != 1) = true := bne_iff_ne.mpr c11
          obtain rfl := Option.some.inj H
          have p6 : 0 ≤ (a1 : Int) := of_decide_eq_true (by first | (with_reducible assumption) | assumption)
          have q6 : a1 < (a0.size : Int) := of_decide_eq_true (by first | (with_reducible assumption) | assumption)
          have hx6 := bt_at a0 a1
          replace p6 := eq_true p6
          replace q6 := eq_true q6
          go_enter Try.func79, Try.ntmps79
          go_wp2_with (first | ((with_reducible refine gate_callee (f := 107) rfl ?_); refine goesL_ (some 18) rfl rfl Try.func107 (by kernel_rfl) rfl #[.int .i64 (Int.tmod a1 9), .int .i64 (Int.tmod a2 9)] rfl (by (try simp only [List.map_toArray, List.map_cons, List.map_nil]); first | done | rfl | (simp only [List.length_drop, List.length_take]; rfl)) ?_; (with_reducible refine (riverbankref05_away.calls (Int.tmod a1 9) (Int.tmod a2 9) t282 _ A7.out).mono ?_); rintro e w15 ⟨rfl, hb⟩; refine ⟨_, rfl, ?_⟩; have n0_ := Aside0.mk (below_step (by repeat (first | (with_reducible first | exact HB.out | apply below_alloc | apply pw_below_drewN | apply below_drew1) | exact HB.out)) hb); clear HB; have HB := n0_; clear n0_; (try clear hb); (try clear hb2); (try clear hk); (try clear hi)) | ((with_reducible refine gate_callee (f := 107) rfl ?_); refine goesL_ (some 23) rfl rfl Try.func107 (by kernel_rfl) rfl #[.int .i64 (wrap64 (Int.tdiv a1 9)), .int .i64 (wrap64 (Int.tdiv a2 9))] rfl (by (try simp only [List.map_toArray, List.map_cons, List.map_nil]); first | done | rfl | (simp only [List.length_drop, List.length_take]; rfl)) ?_; (with_reducible refine (riverbankref05_away.calls (wrap64 (Int.tdiv a1 9)) (wrap64 (Int.tdiv a2 9)) t283 _ A8.out).mono ?_); rintro e w16 ⟨rfl, hb⟩; refine ⟨_, rfl, ?_⟩; have n0_ := Aside0.mk (below_step (by repeat (first | (with_reducible first | exact HB.out | apply below_alloc | apply pw_below_drewN | apply below_drew1) | exact HB.out)) hb); clear HB; have HB := n0_; clear n0_; (try clear hb); (try clear hb2); (try clear hk); (try clear hi)) | ((with_reducible refine gate_callee (f := 33) rfl ?_); refine goesL_ (some 25) rfl rfl Try.func33 (by kernel_rfl) rfl #[.int .u8 (bt a0 a1)] rfl (by (try simp only [List.map_toArray, List.map_cons, List.map_nil]); first | done | rfl | (simp only [List.length_drop, List.length_take]; rfl)) ?_; (with_reducible refine (riverbankref02_Kind.calls k (bt a0 a1) t284 _ A9.out).mono ?_); rintro e w' ⟨rfl, ⟨nd, rfl⟩⟩; refine ⟨_, rfl, ?_⟩))
          go_ret
          exact ⟨by first | rfl | (simp [errW_none, errW_some] <;> rfl) | (simp [*, errW_none, errW_some] <;> rfl), by repeat (first | (with_reducible first | exact HB.out | apply below_alloc | apply pw_below_drewN | apply below_drew1) | exact HB.out)⟩
      · rw [if_neg c10] at H
        have c10b0 : (t284 == 75) = false := beq_eq_false_iff_ne.mpr c10
        have c10b1 : (t284 != 75) = true := bne_iff_ne.mpr c10
        by_cases c17 : t284 = 65
        · rw [if_pos c17] at H
          have c17b0 : (t284 == 65) = true := beq_iff_eq.mpr c17
          have c17b1 : (t284 != 65) = false := bne_eq_false_iff_eq.mpr c17
          clear c17
          by_cases c18 : t282 = 1
          · rw [if_pos c18] at H
            have c18b0 : (t282 == 1) = true := beq_iff_eq.mpr c18
            have c18b1 : (t282 != 1) = false := bne_eq_false_iff_eq.mpr c18
            clear c18
            by_cases c19 : t283 = 1
            · rw [if_pos c19] at H
              have c19b0 : (t283 == 1) = true := beq_iff_eq.mpr c19
              have c19b1 : (t283 != 1) = false := bne_eq_false_iff_eq.mpr c19
              clear c19
              replace H := Option.bind_eq_some_iff.mp H
              obtain ⟨t286, A200, H⟩ := H
              replace H : (some t286) = some r := H
              have A20 := Aside0.mk A200
              clear A200
              obtain rfl := Option.some.inj H
              have p6 : 0 ≤ (a1 : Int) := of_decide_eq_true (by first | (with_reducible assumption) | assumption)
              have q6 : a1 < (a0.size : Int) := of_decide_eq_true (by first | (with_reducible assumption) | assumption)
              have hx6 := bt_at a0 a1
              replace p6 := eq_true p6
              replace q6 := eq_true q6
              go_enter Try.func79, Try.ntmps79
              go_wp2_with (first | ((with_reducible refine gate_callee (f := 107) rfl ?_); refine goesL_ (some 18) rfl rfl Try.func107 (by kernel_rfl) rfl #[.int .i64 (Int.tmod a1 9), .int .i64 (Int.tmod a2 9)] rfl (by (try simp only [List.map_toArray, List.map_cons, List.map_nil]); first | done | rfl | (simp only [List.length_drop, List.length_take]; rfl)) ?_; (with_reducible refine (riverbankref05_away.calls (Int.tmod a1 9) (Int.tmod a2 9) t282 _ A7.out).mono ?_); rintro e w21 ⟨rfl, hb⟩; refine ⟨_, rfl, ?_⟩; have n0_ := Aside0.mk (below_step (by repeat (first | (with_reducible first | exact HB.out | apply below_alloc | apply pw_below_drewN | apply below_drew1) | exact HB.out)) hb); clear HB; have HB := n0_; clear n0_; (try clear hb); (try clear hb2); (try clear hk); (try clear hi)) | ((with_reducible refine gate_callee (f := 107) rfl ?_); refine goesL_ (some 23) rfl rfl Try.func107 (by kernel_rfl) rfl #[.int .i64 (wrap64 (Int.tdiv a1 9)), .int .i64 (wrap64 (Int.tdiv a2 9))] rfl (by (try simp only [List.map_toArray, List.map_cons, List.map_nil]); first | done | rfl | (simp only [List.length_drop, List.length_take]; rfl)) ?_; (with_reducible refine (riverbankref05_away.calls (wrap64 (Int.tdiv a1 9)) (wrap64 (Int.tdiv a2 9)) t283 _ A8.out).mono ?_); rintro e w22 ⟨rfl, hb⟩; refine ⟨_, rfl, ?_⟩; have n0_ := Aside0.mk (below_step (by repeat (first | (with_reducible first | exact HB.out | apply below_alloc | apply pw_below_drewN | apply below_drew1) | exact HB.out)) hb); clear HB; have HB := n0_; clear n0_; (try clear hb); (try clear hb2); (try clear hk); (try clear hi)) | ((with_reducible refine gate_callee (f := 33) rfl ?_); refine goesL_ (some 25) rfl rfl Try.func33 (by kernel_rfl) rfl #[.int .u8 (bt a0 a1)] rfl (by (try simp only [List.map_toArray, List.map_cons, List.map_nil]); first | done | rfl | (simp only [List.length_drop, List.length_take]; rfl)) ?_; (with_reducible refine (riverbankref02_Kind.calls k (bt a0 a1) t284 _ A9.out).mono ?_); rintro e w' ⟨rfl, ⟨nd, rfl⟩⟩; refine ⟨_, rfl, ?_⟩) | (go_at_call 67; (with_reducible refine (riverbankref03_May.calls k (bt a0 a1) a2 t286 _ A20.out).mono ?_); rintro e w' ⟨rfl, ⟨nd, rfl⟩⟩))
              go_ret
              exact ⟨by first | rfl | (simp [errW_none, errW_some] <;> rfl) | (simp [*, errW_none, errW_some] <;> rfl), by repeat (first | (with_reducible first | exact HB.out | apply below_alloc | apply pw_below_drewN | apply below_drew1) | exact HB.out)⟩
            · rw [if_neg c19] at H
              have c19b0 : (t283 == 1) = false := beq_eq_false_iff_ne.mpr c19
              have c19b1 : (t283 != 1) = true := bne_iff_ne.mpr c19
              obtain rfl := Option.some.inj H
              have p6 : 0 ≤ (a1 : Int) := of_decide_eq_true (by first | (with_reducible assumption) | assumption)
              have q6 : a1 < (a0.size : Int) := of_decide_eq_true (by first | (with_reducible assumption) | assumption)
              have hx6 := bt_at a0 a1
              replace p6 := eq_true p6
              replace q6 := eq_true q6
              go_enter Try.func79, Try.ntmps79
              go_wp2_with (first | ((with_reducible refine gate_callee (f := 107) rfl ?_); refine goesL_ (some 18) rfl rfl Try.func107 (by kernel_rfl) rfl #[.int .i64 (Int.tmod a1 9), .int .i64 (Int.tmod a2 9)] rfl (by (try simp only [List.map_toArray, List.map_cons, List.map_nil]); first | done | rfl | (simp only [List.length_drop, List.length_take]; rfl)) ?_; (with_reducible refine (riverbankref05_away.calls (Int.tmod a1 9) (Int.tmod a2 9) t282 _ A7.out).mono ?_); rintro e w23 ⟨rfl, hb⟩; refine ⟨_, rfl, ?_⟩; have n0_ := Aside0.mk (below_step (by repeat (first | (with_reducible first | exact HB.out | apply below_alloc | apply pw_below_drewN | apply below_drew1) | exact HB.out)) hb); clear HB; have HB := n0_; clear n0_; (try clear hb); (try clear hb2); (try clear hk); (try clear hi)) | ((with_reducible refine gate_callee (f := 107) rfl ?_); refine goesL_ (some 23) rfl rfl Try.func107 (by kernel_rfl) rfl #[.int .i64 (wrap64 (Int.tdiv a1 9)), .int .i64 (wrap64 (Int.tdiv a2 9))] rfl (by (try simp only [List.map_toArray, List.map_cons, List.map_nil]); first | done | rfl | (simp only [List.length_drop, List.length_take]; rfl)) ?_; (with_reducible refine (riverbankref05_away.calls (wrap64 (Int.tdiv a1 9)) (wrap64 (Int.tdiv a2 9)) t283 _ A8.out).mono ?_); rintro e w24 ⟨rfl, hb⟩; refine ⟨_, rfl, ?_⟩; have n0_ := Aside0.mk (below_step (by repeat (first | (with_reducible first | exact HB.out | apply below_alloc | apply pw_below_drewN | apply below_drew1) | exact HB.out)) hb); clear HB; have HB := n0_; clear n0_; (try clear hb); (try clear hb2); (try clear hk); (try clear hi)) | ((with_reducible refine gate_callee (f := 33) rfl ?_); refine goesL_ (some 25) rfl rfl Try.func33 (by kernel_rfl) rfl #[.int .u8 (bt a0 a1)] rfl (by (try simp only [List.map_toArray, List.map_cons, List.map_nil]); first | done | rfl | (simp only [List.length_drop, List.length_take]; rfl)) ?_; (with_reducible refine (riverbankref02_Kind.calls k (bt a0 a1) t284 _ A9.out).mono ?_); rintro e w' ⟨rfl, ⟨nd, rfl⟩⟩; refine ⟨_, rfl, ?_⟩))
              go_ret
              exact ⟨by first | rfl | (simp [errW_none, errW_some] <;> rfl) | (simp [*, errW_none, errW_some] <;> rfl), by repeat (first | (with_reducible first | exact HB.out | apply below_alloc | apply pw_below_drewN | apply below_drew1) | exact HB.out)⟩
          · rw [if_neg c18] at H
            have c18b0 : (t282 == 1) = false := beq_eq_false_iff_ne.mpr c18
            have c18b1 : (t282 != 1) = true := bne_iff_ne.mpr c18
            obtain rfl := Option.some.inj H
            have p6 : 0 ≤ (a1 : Int) := of_decide_eq_true (by first | (with_reducible assumption) | assumption)
            have q6 : a1 < (a0.size : Int) := of_decide_eq_true (by first | (with_reducible assumption) | assumption)
            have hx6 := bt_at a0 a1
            replace p6 := eq_true p6
            replace q6 := eq_true q6
            go_enter Try.func79, Try.ntmps79
            go_wp2_with (first | ((with_reducible refine gate_callee (f := 107) rfl ?_); refine goesL_ (some 18) rfl rfl Try.func107 (by kernel_rfl) rfl #[.int .i64 (Int.tmod a1 9), .int .i64 (Int.tmod a2 9)] rfl (by (try simp only [List.map_toArray, List.map_cons, List.map_nil]); first | done | rfl | (simp only [List.length_drop, List.length_take]; rfl)) ?_; (with_reducible refine (riverbankref05_away.calls (Int.tmod a1 9) (Int.tmod a2 9) t282 _ A7.out).mono ?_); rintro e w25 ⟨rfl, hb⟩; refine ⟨_, rfl, ?_⟩; have n0_ := Aside0.mk (below_step (by repeat (first | (with_reducible first | exact HB.out | apply below_alloc | apply pw_below_drewN | apply below_drew1) | exact HB.out)) hb); clear HB; have HB := n0_; clear n0_; (try clear hb); (try clear hb2); (try clear hk); (try clear hi)) | ((with_reducible refine gate_callee (f := 107) rfl ?_); refine goesL_ (some 23) rfl rfl Try.func107 (by kernel_rfl) rfl #[.int .i64 (wrap64 (Int.tdiv a1 9)), .int .i64 (wrap64 (Int.tdiv a2 9))] rfl (by (try simp only [List.map_toArray, List.map_cons, List.map_nil]); first | done | rfl | (simp only [List.length_drop, List.length_take]; rfl)) ?_; (with_reducible refine (riverbankref05_away.calls (wrap64 (Int.tdiv a1 9)) (wrap64 (Int.tdiv a2 9)) t283 _ A8.out).mono ?_); rintro e w26 ⟨rfl, hb⟩; refine ⟨_, rfl, ?_⟩; have n0_ := Aside0.mk (below_step (by repeat (first | (with_reducible first | exact HB.out | apply below_alloc | apply pw_below_drewN | apply below_drew1) | exact HB.out)) hb); clear HB; have HB := n0_; clear n0_; (try clear hb); (try clear hb2); (try clear hk); (try clear hi)) | ((with_reducible refine gate_callee (f := 33) rfl ?_); refine goesL_ (some 25) rfl rfl Try.func33 (by kernel_rfl) rfl #[.int .u8 (bt a0 a1)] rfl (by (try simp only [List.map_toArray, List.map_cons, List.map_nil]); first | done | rfl | (simp only [List.length_drop, List.length_take]; rfl)) ?_; (with_reducible refine (riverbankref02_Kind.calls k (bt a0 a1) t284 _ A9.out).mono ?_); rintro e w' ⟨rfl, ⟨nd, rfl⟩⟩; refine ⟨_, rfl, ?_⟩))
            go_ret
            exact ⟨by first | rfl | (simp [errW_none, errW_some] <;> rfl) | (simp [*, errW_none, errW_some] <;> rfl), by repeat (first | (with_reducible first | exact HB.out | apply below_alloc | apply pw_below_drewN | apply below_drew1) | exact HB.out)⟩
        · rw [if_neg c17] at H
          have c17b0 : (t284 == 65) = false := beq_eq_false_iff_ne.mpr c17
          have c17b1 : (t284 != 65) = true := bne_iff_ne.mpr c17
          by_cases c27 : t284 = 66
          · rw [if_pos c27] at H
            have c27b0 : (t284 == 66) = true := beq_iff_eq.mpr c27
            have c27b1 : (t284 != 66) = false := bne_eq_false_iff_eq.mpr c27
            clear c27
            by_cases c28 : t282 = 2
            · rw [if_pos c28] at H
              have c28b0 : (t282 == 2) = true := beq_iff_eq.mpr c28
              have c28b1 : (t282 != 2) = false := bne_eq_false_iff_eq.mpr c28
              clear c28
              by_cases c29 : t283 = 2
              · rw [if_pos c29] at H
                have c29b0 : (t283 == 2) = true := beq_iff_eq.mpr c29
                have c29b1 : (t283 != 2) = false := bne_eq_false_iff_eq.mpr c29
                clear c29
                replace H := Option.bind_eq_some_iff.mp H
                obtain ⟨t287, A300, H⟩ := H
                replace H : (if t287 = true then (if 0 ≤ (wrap64 (Int.tdiv (wrap64 (a1 + a2)) 2)) then (if (wrap64 (Int.tdiv (wrap64 (a1 + a2)) 2)) < (a0.size : Int) then (some ((bt a0 (wrap64 (Int.tdiv (wrap64 (a1 + a2)) 2))) == 46)) else (none)) else (none)) else (some false)) = some r := H
                have A30 := Aside0.mk A300
                clear A300
                by_cases c31 : t287 = true
                · subst c31
                  have H1 : (if 0 ≤ (wrap64 (Int.tdiv (wrap64 (a1 + a2)) 2)) then (if (wrap64 (Int.tdiv (wrap64 (a1 + a2)) 2)) < (a0.size : Int) then (some ((bt a0 (wrap64 (Int.tdiv (wrap64 (a1 + a2)) 2))) == 46)) else (none)) else (none)) = some r := by rw [if_pos rfl] at H; exact H
                  clear H
                  have H := H1
                  clear H1
                  obtain ⟨ji32, hji32⟩ : ∃ j_ : Int, (wrap64 (Int.tdiv (wrap64 (a1 + a2)) 2)) = j_ := ⟨_, rfl⟩
                  replace H : (if 0 ≤ (ji32) then (if (ji32) < (a0.size : Int) then (some ((bt a0 (ji32)) == 46)) else (none)) else (none)) = some r := by first | (rw [hji32] at H; exact H) | (simp only [hji32] at H ⊢; exact H)
                  (try rw [hji32] at A7)
                  (try rw [hji32] at A8)
                  (try rw [hji32] at A9)
                  (try rw [hji32] at A30)
                  have hji32w : (IntKind.i64.wrap (Int.tdiv (wrap64 (a1 + a2)) 2)) = ji32 := (i64_w _).trans hji32
                  by_cases c33 : 0 ≤ (ji32)
                  · rw [if_pos c33] at H
                    have c33b0 : decide (0 ≤ (ji32)) = true := decide_eq_true c33
                    clear c33
                    by_cases c34 : (ji32) < (a0.size : Int)
                    · rw [if_pos c34] at H
                      have c34b0 : decide ((ji32) < (a0.size : Int)) = true := decide_eq_true c34
                      clear c34
                      obtain rfl := Option.some.inj H
                      have p6 : 0 ≤ (a1 : Int) := of_decide_eq_true (by first | (with_reducible assumption) | assumption)
                      have q6 : a1 < (a0.size : Int) := of_decide_eq_true (by first | (with_reducible assumption) | assumption)
                      have hx6 := bt_at a0 a1
                      replace p6 := eq_true p6
                      replace q6 := eq_true q6
                      go_enter Try.func79, Try.ntmps79
                      go_wp2_with (first | ((with_reducible refine gate_callee (f := 107) rfl ?_); refine goesL_ (some 18) rfl rfl Try.func107 (by kernel_rfl) rfl #[.int .i64 (Int.tmod a1 9), .int .i64 (Int.tmod a2 9)] rfl (by (try simp only [List.map_toArray, List.map_cons, List.map_nil]); first | done | rfl | (simp only [List.length_drop, List.length_take]; rfl)) ?_; (with_reducible refine (riverbankref05_away.calls (Int.tmod a1 9) (Int.tmod a2 9) t282 _ A7.out).mono ?_); rintro e w36 ⟨rfl, hb⟩; refine ⟨_, rfl, ?_⟩; have n0_ := Aside0.mk (below_step (by repeat (first | (with_reducible first | exact HB.out | apply below_alloc | apply pw_below_drewN | apply below_drew1) | exact HB.out)) hb); clear HB; have HB := n0_; clear n0_; (try clear hb); (try clear hb2); (try clear hk); (try clear hi)) | ((with_reducible refine gate_callee (f := 107) rfl ?_); refine goesL_ (some 23) rfl rfl Try.func107 (by kernel_rfl) rfl #[.int .i64 (wrap64 (Int.tdiv a1 9)), .int .i64 (wrap64 (Int.tdiv a2 9))] rfl (by (try simp only [List.map_toArray, List.map_cons, List.map_nil]); first | done | rfl | (simp only [List.length_drop, List.length_take]; rfl)) ?_; (with_reducible refine (riverbankref05_away.calls (wrap64 (Int.tdiv a1 9)) (wrap64 (Int.tdiv a2 9)) t283 _ A8.out).mono ?_); rintro e w37 ⟨rfl, hb⟩; refine ⟨_, rfl, ?_⟩; have n0_ := Aside0.mk (below_step (by repeat (first | (with_reducible first | exact HB.out | apply below_alloc | apply pw_below_drewN | apply below_drew1) | exact HB.out)) hb); clear HB; have HB := n0_; clear n0_; (try clear hb); (try clear hb2); (try clear hk); (try clear hi)) | ((with_reducible refine gate_callee (f := 33) rfl ?_); refine goesL_ (some 25) rfl rfl Try.func33 (by kernel_rfl) rfl #[.int .u8 (bt a0 a1)] rfl (by (try simp only [List.map_toArray, List.map_cons, List.map_nil]); first | done | rfl | (simp only [List.length_drop, List.length_take]; rfl)) ?_; (with_reducible refine (riverbankref02_Kind.calls k (bt a0 a1) t284 _ A9.out).mono ?_); rintro e w' ⟨rfl, ⟨nd, rfl⟩⟩; refine ⟨_, rfl, ?_⟩) | (go_at_call 67; (with_reducible refine (riverbankref03_May.calls k (bt a0 a1) a2 true _ A30.out).mono ?_); rintro e w' ⟨rfl, ⟨nd, rfl⟩⟩; have p35 : 0 ≤ ((ji32) : Int) := of_decide_eq_true (by first | (with_reducible assumption) | assumption); have q35 : (ji32) < (a0.size : Int) := of_decide_eq_true (by first | (with_reducible assumption) | assumption); have hx35 := bt_at a0 (ji32); replace p35 := eq_true p35; replace q35 := eq_true q35))
                      go_ret
                      exact ⟨by first | rfl | (simp [errW_none, errW_some] <;> rfl) | (simp only [← hji32]; first | rfl | (simp [errW_none, errW_some] <;> rfl)) | (simp [*, errW_none, errW_some] <;> rfl), by repeat (first | (with_reducible first | exact HB.out | apply below_alloc | apply pw_below_drewN | apply below_drew1) | exact HB.out)⟩
                    · rw [if_neg c34] at H
                      exact absurd H (by simp)
                  · rw [if_neg c33] at H
                    exact absurd H (by simp)
                · replace c31 := Bool.eq_false_iff.mpr c31
                  subst c31
                  have H1 : (some false) = some r := by rw [if_neg (show ¬ (false = true) by decide)] at H; exact H
                  clear H
                  have H := H1
                  clear H1
                  obtain rfl := Option.some.inj H
                  have p6 : 0 ≤ (a1 : Int) := of_decide_eq_true (by first | (with_reducible assumption) | assumption)
                  have q6 : a1 < (a0.size : Int) := of_decide_eq_true (by first | (with_reducible assumption) | assumption)
                  have hx6 := bt_at a0 a1
                  replace p6 := eq_true p6
                  replace q6 := eq_true q6
                  go_enter Try.func79, Try.ntmps79
                  go_wp2_with (first | ((with_reducible refine gate_callee (f := 107) rfl ?_); refine goesL_ (some 18) rfl rfl Try.func107 (by kernel_rfl) rfl #[.int .i64 (Int.tmod a1 9), .int .i64 (Int.tmod a2 9)] rfl (by (try simp only [List.map_toArray, List.map_cons, List.map_nil]); first | done | rfl | (simp only [List.length_drop, List.length_take]; rfl)) ?_; (with_reducible refine (riverbankref05_away.calls (Int.tmod a1 9) (Int.tmod a2 9) t282 _ A7.out).mono ?_); rintro e w38 ⟨rfl, hb⟩; refine ⟨_, rfl, ?_⟩; have n0_ := Aside0.mk (below_step (by repeat (first | (with_reducible first | exact HB.out | apply below_alloc | apply pw_below_drewN | apply below_drew1) | exact HB.out)) hb); clear HB; have HB := n0_; clear n0_; (try clear hb); (try clear hb2); (try clear hk); (try clear hi)) | ((with_reducible refine gate_callee (f := 107) rfl ?_); refine goesL_ (some 23) rfl rfl Try.func107 (by kernel_rfl) rfl #[.int .i64 (wrap64 (Int.tdiv a1 9)), .int .i64 (wrap64 (Int.tdiv a2 9))] rfl (by (try simp only [List.map_toArray, List.map_cons, List.map_nil]); first | done | rfl | (simp only [List.length_drop, List.length_take]; rfl)) ?_; (with_reducible refine (riverbankref05_away.calls (wrap64 (Int.tdiv a1 9)) (wrap64 (Int.tdiv a2 9)) t283 _ A8.out).mono ?_); rintro e w39 ⟨rfl, hb⟩; refine ⟨_, rfl, ?_⟩; have n0_ := Aside0.mk (below_step (by repeat (first | (with_reducible first | exact HB.out | apply below_alloc | apply pw_below_drewN | apply below_drew1) | exact HB.out)) hb); clear HB; have HB := n0_; clear n0_; (try clear hb); (try clear hb2); (try clear hk); (try clear hi)) | ((with_reducible refine gate_callee (f := 33) rfl ?_); refine goesL_ (some 25) rfl rfl Try.func33 (by kernel_rfl) rfl #[.int .u8 (bt a0 a1)] rfl (by (try simp only [List.map_toArray, List.map_cons, List.map_nil]); first | done | rfl | (simp only [List.length_drop, List.length_take]; rfl)) ?_; (with_reducible refine (riverbankref02_Kind.calls k (bt a0 a1) t284 _ A9.out).mono ?_); rintro e w' ⟨rfl, ⟨nd, rfl⟩⟩; refine ⟨_, rfl, ?_⟩) | (go_at_call 67; (with_reducible refine (riverbankref03_May.calls k (bt a0 a1) a2 false _ A30.out).mono ?_); rintro e w' ⟨rfl, ⟨nd, rfl⟩⟩))
                  go_ret
                  exact ⟨by first | rfl | (simp [errW_none, errW_some] <;> rfl) | (simp [*, errW_none, errW_some] <;> rfl), by repeat (first | (with_reducible first | exact HB.out | apply below_alloc | apply pw_below_drewN | apply below_drew1) | exact HB.out)⟩
              · rw [if_neg c29] at H
                have c29b0 : (t283 == 2) = false := beq_eq_false_iff_ne.mpr c29
                have c29b1 : (t283 != 2) = true := bne_iff_ne.mpr c29
                obtain rfl := Option.some.inj H
                have p6 : 0 ≤ (a1 : Int) := of_decide_eq_true (by first | (with_reducible assumption) | assumption)
                have q6 : a1 < (a0.size : Int) := of_decide_eq_true (by first | (with_reducible assumption) | assumption)
                have hx6 := bt_at a0 a1
                replace p6 := eq_true p6
                replace q6 := eq_true q6
                go_enter Try.func79, Try.ntmps79
                go_wp2_with (first | ((with_reducible refine gate_callee (f := 107) rfl ?_); refine goesL_ (some 18) rfl rfl Try.func107 (by kernel_rfl) rfl #[.int .i64 (Int.tmod a1 9), .int .i64 (Int.tmod a2 9)] rfl (by (try simp only [List.map_toArray, List.map_cons, List.map_nil]); first | done | rfl | (simp only [List.length_drop, List.length_take]; rfl)) ?_; (with_reducible refine (riverbankref05_away.calls (Int.tmod a1 9) (Int.tmod a2 9) t282 _ A7.out).mono ?_); rintro e w40 ⟨rfl, hb⟩; refine ⟨_, rfl, ?_⟩; have n0_ := Aside0.mk (below_step (by repeat (first | (with_reducible first | exact HB.out | apply below_alloc | apply pw_below_drewN | apply below_drew1) | exact HB.out)) hb); clear HB; have HB := n0_; clear n0_; (try clear hb); (try clear hb2); (try clear hk); (try clear hi)) | ((with_reducible refine gate_callee (f := 107) rfl ?_); refine goesL_ (some 23) rfl rfl Try.func107 (by kernel_rfl) rfl #[.int .i64 (wrap64 (Int.tdiv a1 9)), .int .i64 (wrap64 (Int.tdiv a2 9))] rfl (by (try simp only [List.map_toArray, List.map_cons, List.map_nil]); first | done | rfl | (simp only [List.length_drop, List.length_take]; rfl)) ?_; (with_reducible refine (riverbankref05_away.calls (wrap64 (Int.tdiv a1 9)) (wrap64 (Int.tdiv a2 9)) t283 _ A8.out).mono ?_); rintro e w41 ⟨rfl, hb⟩; refine ⟨_, rfl, ?_⟩; have n0_ := Aside0.mk (below_step (by repeat (first | (with_reducible first | exact HB.out | apply below_alloc | apply pw_below_drewN | apply below_drew1) | exact HB.out)) hb); clear HB; have HB := n0_; clear n0_; (try clear hb); (try clear hb2); (try clear hk); (try clear hi)) | ((with_reducible refine gate_callee (f := 33) rfl ?_); refine goesL_ (some 25) rfl rfl Try.func33 (by kernel_rfl) rfl #[.int .u8 (bt a0 a1)] rfl (by (try simp only [List.map_toArray, List.map_cons, List.map_nil]); first | done | rfl | (simp only [List.length_drop, List.length_take]; rfl)) ?_; (with_reducible refine (riverbankref02_Kind.calls k (bt a0 a1) t284 _ A9.out).mono ?_); rintro e w' ⟨rfl, ⟨nd, rfl⟩⟩; refine ⟨_, rfl, ?_⟩))
                go_ret
                exact ⟨by first | rfl | (simp [errW_none, errW_some] <;> rfl) | (simp [*, errW_none, errW_some] <;> rfl), by repeat (first | (with_reducible first | exact HB.out | apply below_alloc | apply pw_below_drewN | apply below_drew1) | exact HB.out)⟩
            · rw [if_neg c28] at H
              have c28b0 : (t282 == 2) = false := beq_eq_false_iff_ne.mpr c28
              have c28b1 : (t282 != 2) = true := bne_iff_ne.mpr c28
              obtain rfl := Option.some.inj H
              have p6 : 0 ≤ (a1 : Int) := of_decide_eq_true (by first | (with_reducible assumption) | assumption)
              have q6 : a1 < (a0.size : Int) := of_decide_eq_true (by first | (with_reducible assumption) | assumption)
              have hx6 := bt_at a0 a1
              replace p6 := eq_true p6
              replace q6 := eq_true q6
              go_enter Try.func79, Try.ntmps79
              go_wp2_with (first | ((with_reducible refine gate_callee (f := 107) rfl ?_); refine goesL_ (some 18) rfl rfl Try.func107 (by kernel_rfl) rfl #[.int .i64 (Int.tmod a1 9), .int .i64 (Int.tmod a2 9)] rfl (by (try simp only [List.map_toArray, List.map_cons, List.map_nil]); first | done | rfl | (simp only [List.length_drop, List.length_take]; rfl)) ?_; (with_reducible refine (riverbankref05_away.calls (Int.tmod a1 9) (Int.tmod a2 9) t282 _ A7.out).mono ?_); rintro e w42 ⟨rfl, hb⟩; refine ⟨_, rfl, ?_⟩; have n0_ := Aside0.mk (below_step (by repeat (first | (with_reducible first | exact HB.out | apply below_alloc | apply pw_below_drewN | apply below_drew1) | exact HB.out)) hb); clear HB; have HB := n0_; clear n0_; (try clear hb); (try clear hb2); (try clear hk); (try clear hi)) | ((with_reducible refine gate_callee (f := 107) rfl ?_); refine goesL_ (some 23) rfl rfl Try.func107 (by kernel_rfl) rfl #[.int .i64 (wrap64 (Int.tdiv a1 9)), .int .i64 (wrap64 (Int.tdiv a2 9))] rfl (by (try simp only [List.map_toArray, List.map_cons, List.map_nil]); first | done | rfl | (simp only [List.length_drop, List.length_take]; rfl)) ?_; (with_reducible refine (riverbankref05_away.calls (wrap64 (Int.tdiv a1 9)) (wrap64 (Int.tdiv a2 9)) t283 _ A8.out).mono ?_); rintro e w43 ⟨rfl, hb⟩; refine ⟨_, rfl, ?_⟩; have n0_ := Aside0.mk (below_step (by repeat (first | (with_reducible first | exact HB.out | apply below_alloc | apply pw_below_drewN | apply below_drew1) | exact HB.out)) hb); clear HB; have HB := n0_; clear n0_; (try clear hb); (try clear hb2); (try clear hk); (try clear hi)) | ((with_reducible refine gate_callee (f := 33) rfl ?_); refine goesL_ (some 25) rfl rfl Try.func33 (by kernel_rfl) rfl #[.int .u8 (bt a0 a1)] rfl (by (try simp only [List.map_toArray, List.map_cons, List.map_nil]); first | done | rfl | (simp only [List.length_drop, List.length_take]; rfl)) ?_; (with_reducible refine (riverbankref02_Kind.calls k (bt a0 a1) t284 _ A9.out).mono ?_); rintro e w' ⟨rfl, ⟨nd, rfl⟩⟩; refine ⟨_, rfl, ?_⟩))
              go_ret
              exact ⟨by first | rfl | (simp [errW_none, errW_some] <;> rfl) | (simp [*, errW_none, errW_some] <;> rfl), by repeat (first | (with_reducible first | exact HB.out | apply below_alloc | apply pw_below_drewN | apply below_drew1) | exact HB.out)⟩
          · rw [if_neg c27] at H
            have c27b0 : (t284 == 66) = false := beq_eq_false_iff_ne.mpr c27
            have c27b1 : (t284 != 66) = true := bne_iff_ne.mpr c27
            by_cases c44 : t284 = 78
            · rw [if_pos c44] at H
              have c44b0 : (t284 == 78) = true := beq_iff_eq.mpr c44
              have c44b1 : (t284 != 78) = false := bne_eq_false_iff_eq.mpr c44
              clear c44
              replace H := Option.bind_eq_some_iff.mp H
              obtain ⟨t288, A450, H⟩ := H
              replace H : (some t288) = some r := H
              have A45 := Aside0.mk A450
              clear A450
              obtain rfl := Option.some.inj H
              have p6 : 0 ≤ (a1 : Int) := of_decide_eq_true (by first | (with_reducible assumption) | assumption)
              have q6 : a1 < (a0.size : Int) := of_decide_eq_true (by first | (with_reducible assumption) | assumption)
              have hx6 := bt_at a0 a1
              replace p6 := eq_true p6
              replace q6 := eq_true q6
              go_enter Try.func79, Try.ntmps79
              go_wp2_with (first | ((with_reducible refine gate_callee (f := 107) rfl ?_); refine goesL_ (some 18) rfl rfl Try.func107 (by kernel_rfl) rfl #[.int .i64 (Int.tmod a1 9), .int .i64 (Int.tmod a2 9)] rfl (by (try simp only [List.map_toArray, List.map_cons, List.map_nil]); first | done | rfl | (simp only [List.length_drop, List.length_take]; rfl)) ?_; (with_reducible refine (riverbankref05_away.calls (Int.tmod a1 9) (Int.tmod a2 9) t282 _ A7.out).mono ?_); rintro e w46 ⟨rfl, hb⟩; refine ⟨_, rfl, ?_⟩; have n0_ := Aside0.mk (below_step (by repeat (first | (with_reducible first | exact HB.out | apply below_alloc | apply pw_below_drewN | apply below_drew1) | exact HB.out)) hb); clear HB; have HB := n0_; clear n0_; (try clear hb); (try clear hb2); (try clear hk); (try clear hi)) | ((with_reducible refine gate_callee (f := 107) rfl ?_); refine goesL_ (some 23) rfl rfl Try.func107 (by kernel_rfl) rfl #[.int .i64 (wrap64 (Int.tdiv a1 9)), .int .i64 (wrap64 (Int.tdiv a2 9))] rfl (by (try simp only [List.map_toArray, List.map_cons, List.map_nil]); first | done | rfl | (simp only [List.length_drop, List.length_take]; rfl)) ?_; (with_reducible refine (riverbankref05_away.calls (wrap64 (Int.tdiv a1 9)) (wrap64 (Int.tdiv a2 9)) t283 _ A8.out).mono ?_); rintro e w47 ⟨rfl, hb⟩; refine ⟨_, rfl, ?_⟩; have n0_ := Aside0.mk (below_step (by repeat (first | (with_reducible first | exact HB.out | apply below_alloc | apply pw_below_drewN | apply below_drew1) | exact HB.out)) hb); clear HB; have HB := n0_; clear n0_; (try clear hb); (try clear hb2); (try clear hk); (try clear hi)) | ((with_reducible refine gate_callee (f := 33) rfl ?_); refine goesL_ (some 25) rfl rfl Try.func33 (by kernel_rfl) rfl #[.int .u8 (bt a0 a1)] rfl (by (try simp only [List.map_toArray, List.map_cons, List.map_nil]); first | done | rfl | (simp only [List.length_drop, List.length_take]; rfl)) ?_; (with_reducible refine (riverbankref02_Kind.calls k (bt a0 a1) t284 _ A9.out).mono ?_); rintro e w' ⟨rfl, ⟨nd, rfl⟩⟩; refine ⟨_, rfl, ?_⟩) | ((with_reducible refine gate_callee (f := 108) rfl ?_); refine goesL_ (some 77) rfl rfl Try.func108 (by kernel_rfl) rfl #[.string a0, .int .i64 a1, .int .i64 a2] rfl (by (try simp only [List.map_toArray, List.map_cons, List.map_nil]); first | done | rfl | (simp only [List.length_drop, List.length_take]; rfl)) ?_; (with_reducible refine (riverbankref05_horse.calls k a0 a1 a2 t288 _ A45.out).mono ?_); rintro e w48 ⟨rfl, hb⟩; refine ⟨_, rfl, ?_⟩; have n0_ := Aside0.mk (below_step (by repeat (first | (with_reducible first | exact HB.out | apply below_alloc | apply pw_below_drewN | apply below_drew1) | exact HB.out)) hb); clear HB; have HB := n0_; clear n0_; (try clear hb); (try clear hb2); (try clear hk); (try clear hi)))
              go_ret
              exact ⟨by first | rfl | (simp [errW_none, errW_some] <;> rfl) | (simp [*, errW_none, errW_some] <;> rfl), by repeat (first | (with_reducible first | exact HB.out | apply below_alloc | apply pw_below_drewN | apply below_drew1) | exact HB.out)⟩
            · rw [if_neg c44] at H
              have c44b0 : (t284 == 78) = false := beq_eq_false_iff_ne.mpr c44
              have c44b1 : (t284 != 78) = true := bne_iff_ne.mpr c44
              by_cases c49 : t284 = 82
              · rw [if_pos c49] at H
                have c49b0 : (t284 == 82) = true := beq_iff_eq.mpr c49
                have c49b1 : (t284 != 82) = false := bne_eq_false_iff_eq.mpr c49
                clear c49
                replace H := Option.bind_eq_some_iff.mp H
                obtain ⟨t289, A500, H⟩ := H
                replace H : (some (t289 == 0)) = some r := H
                have A50 := Aside0.mk A500
                clear A500
                obtain rfl := Option.some.inj H
                have p6 : 0 ≤ (a1 : Int) := of_decide_eq_true (by first | (with_reducible assumption) | assumption)
                have q6 : a1 < (a0.size : Int) := of_decide_eq_true (by first | (with_reducible assumption) | assumption)
                have hx6 := bt_at a0 a1
                replace p6 := eq_true p6
                replace q6 := eq_true q6
                go_enter Try.func79, Try.ntmps79
                go_wp2_with (first | ((with_reducible refine gate_callee (f := 107) rfl ?_); refine goesL_ (some 18) rfl rfl Try.func107 (by kernel_rfl) rfl #[.int .i64 (Int.tmod a1 9), .int .i64 (Int.tmod a2 9)] rfl (by (try simp only [List.map_toArray, List.map_cons, List.map_nil]); first | done | rfl | (simp only [List.length_drop, List.length_take]; rfl)) ?_; (with_reducible refine (riverbankref05_away.calls (Int.tmod a1 9) (Int.tmod a2 9) t282 _ A7.out).mono ?_); rintro e w51 ⟨rfl, hb⟩; refine ⟨_, rfl, ?_⟩; have n0_ := Aside0.mk (below_step (by repeat (first | (with_reducible first | exact HB.out | apply below_alloc | apply pw_below_drewN | apply below_drew1) | exact HB.out)) hb); clear HB; have HB := n0_; clear n0_; (try clear hb); (try clear hb2); (try clear hk); (try clear hi)) | ((with_reducible refine gate_callee (f := 107) rfl ?_); refine goesL_ (some 23) rfl rfl Try.func107 (by kernel_rfl) rfl #[.int .i64 (wrap64 (Int.tdiv a1 9)), .int .i64 (wrap64 (Int.tdiv a2 9))] rfl (by (try simp only [List.map_toArray, List.map_cons, List.map_nil]); first | done | rfl | (simp only [List.length_drop, List.length_take]; rfl)) ?_; (with_reducible refine (riverbankref05_away.calls (wrap64 (Int.tdiv a1 9)) (wrap64 (Int.tdiv a2 9)) t283 _ A8.out).mono ?_); rintro e w52 ⟨rfl, hb⟩; refine ⟨_, rfl, ?_⟩; have n0_ := Aside0.mk (below_step (by repeat (first | (with_reducible first | exact HB.out | apply below_alloc | apply pw_below_drewN | apply below_drew1) | exact HB.out)) hb); clear HB; have HB := n0_; clear n0_; (try clear hb); (try clear hb2); (try clear hk); (try clear hi)) | ((with_reducible refine gate_callee (f := 33) rfl ?_); refine goesL_ (some 25) rfl rfl Try.func33 (by kernel_rfl) rfl #[.int .u8 (bt a0 a1)] rfl (by (try simp only [List.map_toArray, List.map_cons, List.map_nil]); first | done | rfl | (simp only [List.length_drop, List.length_take]; rfl)) ?_; (with_reducible refine (riverbankref02_Kind.calls k (bt a0 a1) t284 _ A9.out).mono ?_); rintro e w' ⟨rfl, ⟨nd, rfl⟩⟩; refine ⟨_, rfl, ?_⟩) | ((with_reducible refine gate_callee (f := 52) rfl ?_); refine goesL_ (some 83) rfl rfl Try.func52 (by kernel_rfl) rfl #[.string a0, .int .i64 a1, .int .i64 a2] rfl (by (try simp only [List.map_toArray, List.map_cons, List.map_nil]); first | done | rfl | (simp only [List.length_drop, List.length_take]; rfl)) ?_; (with_reducible refine (riverbankref05_between.calls k a0 a1 a2 t289 _ A50.out).mono ?_); rintro e w53 ⟨rfl, hb⟩; refine ⟨_, rfl, ?_⟩; have n0_ := Aside0.mk (below_step (by repeat (first | (with_reducible first | exact HB.out | apply below_alloc | apply pw_below_drewN | apply below_drew1) | exact HB.out)) hb); clear HB; have HB := n0_; clear n0_; (try clear hb); (try clear hb2); (try clear hk); (try clear hi)))
                go_ret
                exact ⟨by first | rfl | (simp [errW_none, errW_some] <;> rfl) | (simp [*, errW_none, errW_some] <;> rfl), by repeat (first | (with_reducible first | exact HB.out | apply below_alloc | apply pw_below_drewN | apply below_drew1) | exact HB.out)⟩
              · rw [if_neg c49] at H
                have c49b0 : (t284 == 82) = false := beq_eq_false_iff_ne.mpr c49
                have c49b1 : (t284 != 82) = true := bne_iff_ne.mpr c49
                by_cases c54 : t284 = 67
                · rw [if_pos c54] at H
                  have c54b0 : (t284 == 67) = true := beq_iff_eq.mpr c54
                  have c54b1 : (t284 != 67) = false := bne_eq_false_iff_eq.mpr c54
                  clear c54
                  replace H := Option.bind_eq_some_iff.mp H
                  obtain ⟨t290, A550, H⟩ := H
                  replace H : (if t290 = 0 then (if 0 ≤ a2 then (if a2 < (a0.size : Int) then (if (bt a0 a2) = 46 then (some true) else (if t290 = 1 then (some ((bt a0 a2) != 46)) else (some false))) else (none)) else (none)) else (if t290 = 1 then (if 0 ≤ a2 then (if a2 < (a0.size : Int) then (some ((bt a0 a2) != 46)) else (none)) else (none)) else (some false))) = some r := H
                  have A55 := Aside0.mk A550
                  clear A550
                  by_cases c56 : t290 = 0
                  · rw [if_pos c56] at H
                    have c56b0 : (t290 == 0) = true := beq_iff_eq.mpr c56
                    have c56b1 : (t290 != 0) = false := bne_eq_false_iff_eq.mpr c56
                    clear c56
                    by_cases c57 : 0 ≤ a2
                    · rw [if_pos c57] at H
                      have c57b0 : decide (0 ≤ a2) = true := decide_eq_true c57
                      clear c57
                      by_cases c58 : a2 < (a0.size : Int)
                      · rw [if_pos c58] at H
                        have c58b0 : decide (a2 < (a0.size : Int)) = true := decide_eq_true c58
                        clear c58
                        by_cases c60 : (bt a0 a2) = 46
                        · rw [if_pos c60] at H
                          have c60b0 : ((bt a0 a2) == 46) = true := beq_iff_eq.mpr c60
                          have c60b1 : ((bt a0 a2) != 46) = false := bne_eq_false_iff_eq.mpr c60
                          clear c60
                          obtain rfl := Option.some.inj H
                          have p6 : 0 ≤ (a1 : Int) := of_decide_eq_true (by first | (with_reducible assumption) | assumption)
                          have q6 : a1 < (a0.size : Int) := of_decide_eq_true (by first | (with_reducible assumption) | assumption)
                          have hx6 := bt_at a0 a1
                          replace p6 := eq_true p6
                          replace q6 := eq_true q6
                          go_enter Try.func79, Try.ntmps79
                          go_wp2_with (first | ((with_reducible refine gate_callee (f := 107) rfl ?_); refine goesL_ (some 18) rfl rfl Try.func107 (by kernel_rfl) rfl #[.int .i64 (Int.tmod a1 9), .int .i64 (Int.tmod a2 9)] rfl (by (try simp only [List.map_toArray, List.map_cons, List.map_nil]); first | done | rfl | (simp only [List.length_drop, List.length_take]; rfl)) ?_; (with_reducible refine (riverbankref05_away.calls (Int.tmod a1 9) (Int.tmod a2 9) t282 _ A7.out).mono ?_); rintro e w61 ⟨rfl, hb⟩; refine ⟨_, rfl, ?_⟩; have n0_ := Aside0.mk (below_step (by repeat (first | (with_reducible first | exact HB.out | apply below_alloc | apply pw_below_drewN | apply below_drew1) | exact HB.out)) hb); clear HB; have HB := n0_; clear n0_; (try clear hb); (try clear hb2); (try clear hk); (try clear hi)) | ((with_reducible refine gate_callee (f := 107) rfl ?_); refine goesL_ (some 23) rfl rfl Try.func107 (by kernel_rfl) rfl #[.int .i64 (wrap64 (Int.tdiv a1 9)), .int .i64 (wrap64 (Int.tdiv a2 9))] rfl (by (try simp only [List.map_toArray, List.map_cons, List.map_nil]); first | done | rfl | (simp only [List.length_drop, List.length_take]; rfl)) ?_; (with_reducible refine (riverbankref05_away.calls (wrap64 (Int.tdiv a1 9)) (wrap64 (Int.tdiv a2 9)) t283 _ A8.out).mono ?_); rintro e w62 ⟨rfl, hb⟩; refine ⟨_, rfl, ?_⟩; have n0_ := Aside0.mk (below_step (by repeat (first | (with_reducible first | exact HB.out | apply below_alloc | apply pw_below_drewN | apply below_drew1) | exact HB.out)) hb); clear HB; have HB := n0_; clear n0_; (try clear hb); (try clear hb2); (try clear hk); (try clear hi)) | ((with_reducible refine gate_callee (f := 33) rfl ?_); refine goesL_ (some 25) rfl rfl Try.func33 (by kernel_rfl) rfl #[.int .u8 (bt a0 a1)] rfl (by (try simp only [List.map_toArray, List.map_cons, List.map_nil]); first | done | rfl | (simp only [List.length_drop, List.length_take]; rfl)) ?_; (with_reducible refine (riverbankref02_Kind.calls k (bt a0 a1) t284 _ A9.out).mono ?_); rintro e w' ⟨rfl, ⟨nd, rfl⟩⟩; refine ⟨_, rfl, ?_⟩) | ((with_reducible refine gate_callee (f := 52) rfl ?_); refine goesL_ (some 90) rfl rfl Try.func52 (by kernel_rfl) rfl #[.string a0, .int .i64 a1, .int .i64 a2] rfl (by (try simp only [List.map_toArray, List.map_cons, List.map_nil]); first | done | rfl | (simp only [List.length_drop, List.length_take]; rfl)) ?_; (with_reducible refine (riverbankref05_between.calls k a0 a1 a2 t290 _ A55.out).mono ?_); rintro e w63 ⟨rfl, hb⟩; refine ⟨_, rfl, ?_⟩; have n0_ := Aside0.mk (below_step (by repeat (first | (with_reducible first | exact HB.out | apply below_alloc | apply pw_below_drewN | apply below_drew1) | exact HB.out)) hb); clear HB; have HB := n0_; clear n0_; (try clear hb); (try clear hb2); (try clear hk); (try clear hi); have p59 : 0 ≤ (a2 : Int) := of_decide_eq_true (by first | (with_reducible assumption) | assumption); have q59 : a2 < (a0.size : Int) := of_decide_eq_true (by first | (with_reducible assumption) | assumption); have hx59 := bt_at a0 a2; replace p59 := eq_true p59; replace q59 := eq_true q59))
                          go_ret
                          exact ⟨by first | rfl | (simp [errW_none, errW_some] <;> rfl) | (simp [*, errW_none, errW_some] <;> rfl), by repeat (first | (with_reducible first | exact HB.out | apply below_alloc | apply pw_below_drewN | apply below_drew1) | exact HB.out)⟩
                        · rw [if_neg c60] at H
                          have c60b0 : ((bt a0 a2) == 46) = false := beq_eq_false_iff_ne.mpr c60
                          have c60b1 : ((bt a0 a2) != 46) = true := bne_iff_ne.mpr c60
                          by_cases c64 : t290 = 1
                          · rw [if_pos c64] at H
                            have c64b0 : (t290 == 1) = true := beq_iff_eq.mpr c64
                            have c64b1 : (t290 != 1) = false := bne_eq_false_iff_eq.mpr c64
                            clear c64
                            obtain rfl := Option.some.inj H
                            have p6 : 0 ≤ (a1 : Int) := of_decide_eq_true (by first | (with_reducible assumption) | assumption)
                            have q6 : a1 < (a0.size : Int) := of_decide_eq_true (by first | (with_reducible assumption) | assumption)
                            have hx6 := bt_at a0 a1
                            replace p6 := eq_true p6
                            replace q6 := eq_true q6
                            go_enter Try.func79, Try.ntmps79
                            go_wp2_with (first | ((with_reducible refine gate_callee (f := 107) rfl ?_); refine goesL_ (some 18) rfl rfl Try.func107 (by kernel_rfl) rfl #[.int .i64 (Int.tmod a1 9), .int .i64 (Int.tmod a2 9)] rfl (by (try simp only [List.map_toArray, List.map_cons, List.map_nil]); first | done | rfl | (simp only [List.length_drop, List.length_take]; rfl)) ?_; (with_reducible refine (riverbankref05_away.calls (Int.tmod a1 9) (Int.tmod a2 9) t282 _ A7.out).mono ?_); rintro e w66 ⟨rfl, hb⟩; refine ⟨_, rfl, ?_⟩; have n0_ := Aside0.mk (below_step (by repeat (first | (with_reducible first | exact HB.out | apply below_alloc | apply pw_below_drewN | apply below_drew1) | exact HB.out)) hb); clear HB; have HB := n0_; clear n0_; (try clear hb); (try clear hb2); (try clear hk); (try clear hi)) | ((with_reducible refine gate_callee (f := 107) rfl ?_); refine goesL_ (some 23) rfl rfl Try.func107 (by kernel_rfl) rfl #[.int .i64 (wrap64 (Int.tdiv a1 9)), .int .i64 (wrap64 (Int.tdiv a2 9))] rfl (by (try simp only [List.map_toArray, List.map_cons, List.map_nil]); first | done | rfl | (simp only [List.length_drop, List.length_take]; rfl)) ?_; (with_reducible refine (riverbankref05_away.calls (wrap64 (Int.tdiv a1 9)) (wrap64 (Int.tdiv a2 9)) t283 _ A8.out).mono ?_); rintro e w67 ⟨rfl, hb⟩; refine ⟨_, rfl, ?_⟩; have n0_ := Aside0.mk (below_step (by repeat (first | (with_reducible first | exact HB.out | apply below_alloc | apply pw_below_drewN | apply below_drew1) | exact HB.out)) hb); clear HB; have HB := n0_; clear n0_; (try clear hb); (try clear hb2); (try clear hk); (try clear hi)) | ((with_reducible refine gate_callee (f := 33) rfl ?_); refine goesL_ (some 25) rfl rfl Try.func33 (by kernel_rfl) rfl #[.int .u8 (bt a0 a1)] rfl (by (try simp only [List.map_toArray, List.map_cons, List.map_nil]); first | done | rfl | (simp only [List.length_drop, List.length_take]; rfl)) ?_; (with_reducible refine (riverbankref02_Kind.calls k (bt a0 a1) t284 _ A9.out).mono ?_); rintro e w' ⟨rfl, ⟨nd, rfl⟩⟩; refine ⟨_, rfl, ?_⟩) | ((with_reducible refine gate_callee (f := 52) rfl ?_); refine goesL_ (some 90) rfl rfl Try.func52 (by kernel_rfl) rfl #[.string a0, .int .i64 a1, .int .i64 a2] rfl (by (try simp only [List.map_toArray, List.map_cons, List.map_nil]); first | done | rfl | (simp only [List.length_drop, List.length_take]; rfl)) ?_; (with_reducible refine (riverbankref05_between.calls k a0 a1 a2 t290 _ A55.out).mono ?_); rintro e w68 ⟨rfl, hb⟩; refine ⟨_, rfl, ?_⟩; have n0_ := Aside0.mk (below_step (by repeat (first | (with_reducible first | exact HB.out | apply below_alloc | apply pw_below_drewN | apply below_drew1) | exact HB.out)) hb); clear HB; have HB := n0_; clear n0_; (try clear hb); (try clear hb2); (try clear hk); (try clear hi); have p59 : 0 ≤ (a2 : Int) := of_decide_eq_true (by first | (with_reducible assumption) | assumption); have q59 : a2 < (a0.size : Int) := of_decide_eq_true (by first | (with_reducible assumption) | assumption); have hx59 := bt_at a0 a2; replace p59 := eq_true p59; replace q59 := eq_true q59; have p65 : 0 ≤ (a2 : Int) := of_decide_eq_true (by first | (with_reducible assumption) | assumption); have q65 : a2 < (a0.size : Int) := of_decide_eq_true (by first | (with_reducible assumption) | assumption); have hx65 := bt_at a0 a2; replace p65 := eq_true p65; replace q65 := eq_true q65))
                            go_ret
                            exact ⟨by first | rfl | (simp [errW_none, errW_some] <;> rfl) | (simp [*, errW_none, errW_some] <;> rfl), by repeat (first | (with_reducible first | exact HB.out | apply below_alloc | apply pw_below_drewN | apply below_drew1) | exact HB.out)⟩
                          · rw [if_neg c64] at H
                            have c64b0 : (t290 == 1) = false := beq_eq_false_iff_ne.mpr c64
                            have c64b1 : (t290 != 1) = true := bne_iff_ne.mpr c64
                            obtain rfl := Option.some.inj H
                            have p6 : 0 ≤ (a1 : Int) := of_decide_eq_true (by first | (with_reducible assumption) | assumption)
                            have q6 : a1 < (a0.size : Int) := of_decide_eq_true (by first | (with_reducible assumption) | assumption)
                            have hx6 := bt_at a0 a1
                            replace p6 := eq_true p6
                            replace q6 := eq_true q6
                            go_enter Try.func79, Try.ntmps79
                            go_wp2_with (first | ((with_reducible refine gate_callee (f := 107) rfl ?_); refine goesL_ (some 18) rfl rfl Try.func107 (by kernel_rfl) rfl #[.int .i64 (Int.tmod a1 9), .int .i64 (Int.tmod a2 9)] rfl (by (try simp only [List.map_toArray, List.map_cons, List.map_nil]); first | done | rfl | (simp only [List.length_drop, List.length_take]; rfl)) ?_; (with_reducible refine (riverbankref05_away.calls (Int.tmod a1 9) (Int.tmod a2 9) t282 _ A7.out).mono ?_); rintro e w69 ⟨rfl, hb⟩; refine ⟨_, rfl, ?_⟩; have n0_ := Aside0.mk (below_step (by repeat (first | (with_reducible first | exact HB.out | apply below_alloc | apply pw_below_drewN | apply below_drew1) | exact HB.out)) hb); clear HB; have HB := n0_; clear n0_; (try clear hb); (try clear hb2); (try clear hk); (try clear hi)) | ((with_reducible refine gate_callee (f := 107) rfl ?_); refine goesL_ (some 23) rfl rfl Try.func107 (by kernel_rfl) rfl #[.int .i64 (wrap64 (Int.tdiv a1 9)), .int .i64 (wrap64 (Int.tdiv a2 9))] rfl (by (try simp only [List.map_toArray, List.map_cons, List.map_nil]); first | done | rfl | (simp only [List.length_drop, List.length_take]; rfl)) ?_; (with_reducible refine (riverbankref05_away.calls (wrap64 (Int.tdiv a1 9)) (wrap64 (Int.tdiv a2 9)) t283 _ A8.out).mono ?_); rintro e w70 ⟨rfl, hb⟩; refine ⟨_, rfl, ?_⟩; have n0_ := Aside0.mk (below_step (by repeat (first | (with_reducible first | exact HB.out | apply below_alloc | apply pw_below_drewN | apply below_drew1) | exact HB.out)) hb); clear HB; have HB := n0_; clear n0_; (try clear hb); (try clear hb2); (try clear hk); (try clear hi)) | ((with_reducible refine gate_callee (f := 33) rfl ?_); refine goesL_ (some 25) rfl rfl Try.func33 (by kernel_rfl) rfl #[.int .u8 (bt a0 a1)] rfl (by (try simp only [List.map_toArray, List.map_cons, List.map_nil]); first | done | rfl | (simp only [List.length_drop, List.length_take]; rfl)) ?_; (with_reducible refine (riverbankref02_Kind.calls k (bt a0 a1) t284 _ A9.out).mono ?_); rintro e w' ⟨rfl, ⟨nd, rfl⟩⟩; refine ⟨_, rfl, ?_⟩) | ((with_reducible refine gate_callee (f := 52) rfl ?_); refine goesL_ (some 90) rfl rfl Try.func52 (by kernel_rfl) rfl #[.string a0, .int .i64 a1, .int .i64 a2] rfl (by (try simp only [List.map_toArray, List.map_cons, List.map_nil]); first | done | rfl | (simp only [List.length_drop, List.length_take]; rfl)) ?_; (with_reducible refine (riverbankref05_between.calls k a0 a1 a2 t290 _ A55.out).mono ?_); rintro e w71 ⟨rfl, hb⟩; refine ⟨_, rfl, ?_⟩; have n0_ := Aside0.mk (below_step (by repeat (first | (with_reducible first | exact HB.out | apply below_alloc | apply pw_below_drewN | apply below_drew1) | exact HB.out)) hb); clear HB; have HB := n0_; clear n0_; (try clear hb); (try clear hb2); (try clear hk); (try clear hi); have p59 : 0 ≤ (a2 : Int) := of_decide_eq_true (by first | (with_reducible assumption) | assumption); have q59 : a2 < (a0.size : Int) := of_decide_eq_true (by first | (with_reducible assumption) | assumption); have hx59 := bt_at a0 a2; replace p59 := eq_true p59; replace q59 := eq_true q59))
                            go_ret
                            exact ⟨by first | rfl | (simp [errW_none, errW_some] <;> rfl) | (simp [*, errW_none, errW_some] <;> rfl), by repeat (first | (with_reducible first | exact HB.out | apply below_alloc | apply pw_below_drewN | apply below_drew1) | exact HB.out)⟩
                      · rw [if_neg c58] at H
                        exact absurd H (by simp)
                    · rw [if_neg c57] at H
                      exact absurd H (by simp)
                  · rw [if_neg c56] at H
                    have c56b0 : (t290 == 0) = false := beq_eq_false_iff_ne.mpr c56
                    have c56b1 : (t290 != 0) = true := bne_iff_ne.mpr c56
                    by_cases c72 : t290 = 1
                    · rw [if_pos c72] at H
                      have c72b0 : (t290 == 1) = true := beq_iff_eq.mpr c72
                      have c72b1 : (t290 != 1) = false := bne_eq_false_iff_eq.mpr c72
                      clear c72
                      by_cases c73 : 0 ≤ a2
                      · rw [if_pos c73] at H
                        have c73b0 : decide (0 ≤ a2) = true := decide_eq_true c73
                        clear c73
                        by_cases c74 : a2 < (a0.size : Int)
                        · rw [if_pos c74] at H
                          have c74b0 : decide (a2 < (a0.size : Int)) = true := decide_eq_true c74
                          clear c74
                          obtain rfl := Option.some.inj H
                          have p6 : 0 ≤ (a1 : Int) := of_decide_eq_true (by first | (with_reducible assumption) | assumption)
                          have q6 : a1 < (a0.size : Int) := of_decide_eq_true (by first | (with_reducible assumption) | assumption)
                          have hx6 := bt_at a0 a1
                          replace p6 := eq_true p6
                          replace q6 := eq_true q6
                          go_enter Try.func79, Try.ntmps79
                          go_wp2_with (first | ((with_reducible refine gate_callee (f := 107) rfl ?_); refine goesL_ (some 18) rfl rfl Try.func107 (by kernel_rfl) rfl #[.int .i64 (Int.tmod a1 9), .int .i64 (Int.tmod a2 9)] rfl (by (try simp only [List.map_toArray, List.map_cons, List.map_nil]); first | done | rfl | (simp only [List.length_drop, List.length_take]; rfl)) ?_; (with_reducible refine (riverbankref05_away.calls (Int.tmod a1 9) (Int.tmod a2 9) t282 _ A7.out).mono ?_); rintro e w76 ⟨rfl, hb⟩; refine ⟨_, rfl, ?_⟩; have n0_ := Aside0.mk (below_step (by repeat (first | (with_reducible first | exact HB.out | apply below_alloc | apply pw_below_drewN | apply below_drew1) | exact HB.out)) hb); clear HB; have HB := n0_; clear n0_; (try clear hb); (try clear hb2); (try clear hk); (try clear hi)) | ((with_reducible refine gate_callee (f := 107) rfl ?_); refine goesL_ (some 23) rfl rfl Try.func107 (by kernel_rfl) rfl #[.int .i64 (wrap64 (Int.tdiv a1 9)), .int .i64 (wrap64 (Int.tdiv a2 9))] rfl (by (try simp only [List.map_toArray, List.map_cons, List.map_nil]); first | done | rfl | (simp only [List.length_drop, List.length_take]; rfl)) ?_; (with_reducible refine (riverbankref05_away.calls (wrap64 (Int.tdiv a1 9)) (wrap64 (Int.tdiv a2 9)) t283 _ A8.out).mono ?_); rintro e w77 ⟨rfl, hb⟩; refine ⟨_, rfl, ?_⟩; have n0_ := Aside0.mk (below_step (by repeat (first | (with_reducible first | exact HB.out | apply below_alloc | apply pw_below_drewN | apply below_drew1) | exact HB.out)) hb); clear HB; have HB := n0_; clear n0_; (try clear hb); (try clear hb2); (try clear hk); (try clear hi)) | ((with_reducible refine gate_callee (f := 33) rfl ?_); refine goesL_ (some 25) rfl rfl Try.func33 (by kernel_rfl) rfl #[.int .u8 (bt a0 a1)] rfl (by (try simp only [List.map_toArray, List.map_cons, List.map_nil]); first | done | rfl | (simp only [List.length_drop, List.length_take]; rfl)) ?_; (with_reducible refine (riverbankref02_Kind.calls k (bt a0 a1) t284 _ A9.out).mono ?_); rintro e w' ⟨rfl, ⟨nd, rfl⟩⟩; refine ⟨_, rfl, ?_⟩) | ((with_reducible refine gate_callee (f := 52) rfl ?_); refine goesL_ (some 90) rfl rfl Try.func52 (by kernel_rfl) rfl #[.string a0, .int .i64 a1, .int .i64 a2] rfl (by (try simp only [List.map_toArray, List.map_cons, List.map_nil]); first | done | rfl | (simp only [List.length_drop, List.length_take]; rfl)) ?_; (with_reducible refine (riverbankref05_between.calls k a0 a1 a2 t290 _ A55.out).mono ?_); rintro e w78 ⟨rfl, hb⟩; refine ⟨_, rfl, ?_⟩; have n0_ := Aside0.mk (below_step (by repeat (first | (with_reducible first | exact HB.out | apply below_alloc | apply pw_below_drewN | apply below_drew1) | exact HB.out)) hb); clear HB; have HB := n0_; clear n0_; (try clear hb); (try clear hb2); (try clear hk); (try clear hi); have p75 : 0 ≤ (a2 : Int) := of_decide_eq_true (by first | (with_reducible assumption) | assumption); have q75 : a2 < (a0.size : Int) := of_decide_eq_true (by first | (with_reducible assumption) | assumption); have hx75 := bt_at a0 a2; replace p75 := eq_true p75; replace q75 := eq_true q75))
                          go_ret
                          exact ⟨by first | rfl | (simp [errW_none, errW_some] <;> rfl) | (simp [*, errW_none, errW_some] <;> rfl), by repeat (first | (with_reducible first | exact HB.out | apply below_alloc | apply pw_below_drewN | apply below_drew1) | exact HB.out)⟩
                        · rw [if_neg c74] at H
                          exact absurd H (by simp)
                      · rw [if_neg c73] at H
                        exact absurd H (by simp)
                    · rw [if_neg c72] at H
                      have c72b0 : (t290 == 1) = false := beq_eq_false_iff_ne.mpr c72
                      have c72b1 : (t290 != 1) = true := bne_iff_ne.mpr c72
                      obtain rfl := Option.some.inj H
                      have p6 : 0 ≤ (a1 : Int) := of_decide_eq_true (by first | (with_reducible assumption) | assumption)
                      have q6 : a1 < (a0.size : Int) := of_decide_eq_true (by first | (with_reducible assumption) | assumption)
                      have hx6 := bt_at a0 a1
                      replace p6 := eq_true p6
                      replace q6 := eq_true q6
                      go_enter Try.func79, Try.ntmps79
                      go_wp2_with (first | ((with_reducible refine gate_callee (f := 107) rfl ?_); refine goesL_ (some 18) rfl rfl Try.func107 (by kernel_rfl) rfl #[.int .i64 (Int.tmod a1 9), .int .i64 (Int.tmod a2 9)] rfl (by (try simp only [List.map_toArray, List.map_cons, List.map_nil]); first | done | rfl | (simp only [List.length_drop, List.length_take]; rfl)) ?_; (with_reducible refine (riverbankref05_away.calls (Int.tmod a1 9) (Int.tmod a2 9) t282 _ A7.out).mono ?_); rintro e w79 ⟨rfl, hb⟩; refine ⟨_, rfl, ?_⟩; have n0_ := Aside0.mk (below_step (by repeat (first | (with_reducible first | exact HB.out | apply below_alloc | apply pw_below_drewN | apply below_drew1) | exact HB.out)) hb); clear HB; have HB := n0_; clear n0_; (try clear hb); (try clear hb2); (try clear hk); (try clear hi)) | ((with_reducible refine gate_callee (f := 107) rfl ?_); refine goesL_ (some 23) rfl rfl Try.func107 (by kernel_rfl) rfl #[.int .i64 (wrap64 (Int.tdiv a1 9)), .int .i64 (wrap64 (Int.tdiv a2 9))] rfl (by (try simp only [List.map_toArray, List.map_cons, List.map_nil]); first | done | rfl | (simp only [List.length_drop, List.length_take]; rfl)) ?_; (with_reducible refine (riverbankref05_away.calls (wrap64 (Int.tdiv a1 9)) (wrap64 (Int.tdiv a2 9)) t283 _ A8.out).mono ?_); rintro e w80 ⟨rfl, hb⟩; refine ⟨_, rfl, ?_⟩; have n0_ := Aside0.mk (below_step (by repeat (first | (with_reducible first | exact HB.out | apply below_alloc | apply pw_below_drewN | apply below_drew1) | exact HB.out)) hb); clear HB; have HB := n0_; clear n0_; (try clear hb); (try clear hb2); (try clear hk); (try clear hi)) | ((with_reducible refine gate_callee (f := 33) rfl ?_); refine goesL_ (some 25) rfl rfl Try.func33 (by kernel_rfl) rfl #[.int .u8 (bt a0 a1)] rfl (by (try simp only [List.map_toArray, List.map_cons, List.map_nil]); first | done | rfl | (simp only [List.length_drop, List.length_take]; rfl)) ?_; (with_reducible refine (riverbankref02_Kind.calls k (bt a0 a1) t284 _ A9.out).mono ?_); rintro e w' ⟨rfl, ⟨nd, rfl⟩⟩; refine ⟨_, rfl, ?_⟩) | ((with_reducible refine gate_callee (f := 52) rfl ?_); refine goesL_ (some 90) rfl rfl Try.func52 (by kernel_rfl) rfl #[.string a0, .int .i64 a1, .int .i64 a2] rfl (by (try simp only [List.map_toArray, List.map_cons, List.map_nil]); first | done | rfl | (simp only [List.length_drop, List.length_take]; rfl)) ?_; (with_reducible refine (riverbankref05_between.calls k a0 a1 a2 t290 _ A55.out).mono ?_); rintro e w81 ⟨rfl, hb⟩; refine ⟨_, rfl, ?_⟩; have n0_ := Aside0.mk (below_step (by repeat (first | (with_reducible first | exact HB.out | apply below_alloc | apply pw_below_drewN | apply below_drew1) | exact HB.out)) hb); clear HB; have HB := n0_; clear n0_; (try clear hb); (try clear hb2); (try clear hk); (try clear hi)))
                      go_ret
                      exact ⟨by first | rfl | (simp [errW_none, errW_some] <;> rfl) | (simp [*, errW_none, errW_some] <;> rfl), by repeat (first | (with_reducible first | exact HB.out | apply below_alloc | apply pw_below_drewN | apply below_drew1) | exact HB.out)⟩
                · rw [if_neg c54] at H
                  have c54b0 : (t284 == 67) = false := beq_eq_false_iff_ne.mpr c54
                  have c54b1 : (t284 != 67) = true := bne_iff_ne.mpr c54
                  replace H := Option.bind_eq_some_iff.mp H
                  obtain ⟨t291, A820, H⟩ := H
                  replace H : ((riverbankref05_pawn.f k t291 a1 a2).bind fun t292 => (some t292)) = some r := H
                  have A82 := Aside0.mk A820
                  clear A820
                  replace H := Option.bind_eq_some_iff.mp H
                  obtain ⟨t292, A830, H⟩ := H
                  replace H : (some t292) = some r := H
                  have A83 := Aside0.mk A830
                  clear A830
                  obtain rfl := Option.some.inj H
                  have p6 : 0 ≤ (a1 : Int) := of_decide_eq_true (by first | (with_reducible assumption) | assumption)
                  have q6 : a1 < (a0.size : Int) := of_decide_eq_true (by first | (with_reducible assumption) | assumption)
                  have hx6 := bt_at a0 a1
                  replace p6 := eq_true p6
                  replace q6 := eq_true q6
                  go_enter Try.func79, Try.ntmps79
                  go_wp2_with (first | ((with_reducible refine gate_callee (f := 107) rfl ?_); refine goesL_ (some 18) rfl rfl Try.func107 (by kernel_rfl) rfl #[.int .i64 (Int.tmod a1 9), .int .i64 (Int.tmod a2 9)] rfl (by (try simp only [List.map_toArray, List.map_cons, List.map_nil]); first | done | rfl | (simp only [List.length_drop, List.length_take]; rfl)) ?_; (with_reducible refine (riverbankref05_away.calls (Int.tmod a1 9) (Int.tmod a2 9) t282 _ A7.out).mono ?_); rintro e w84 ⟨rfl, hb⟩; refine ⟨_, rfl, ?_⟩; have n0_ := Aside0.mk (below_step (by repeat (first | (with_reducible first | exact HB.out | apply below_alloc | apply pw_below_drewN | apply below_drew1) | exact HB.out)) hb); clear HB; have HB := n0_; clear n0_; (try clear hb); (try clear hb2); (try clear hk); (try clear hi)) | ((with_reducible refine gate_callee (f := 107) rfl ?_); refine goesL_ (some 23) rfl rfl Try.func107 (by kernel_rfl) rfl #[.int .i64 (wrap64 (Int.tdiv a1 9)), .int .i64 (wrap64 (Int.tdiv a2 9))] rfl (by (try simp only [List.map_toArray, List.map_cons, List.map_nil]); first | done | rfl | (simp only [List.length_drop, List.length_take]; rfl)) ?_; (with_reducible refine (riverbankref05_away.calls (wrap64 (Int.tdiv a1 9)) (wrap64 (Int.tdiv a2 9)) t283 _ A8.out).mono ?_); rintro e w85 ⟨rfl, hb⟩; refine ⟨_, rfl, ?_⟩; have n0_ := Aside0.mk (below_step (by repeat (first | (with_reducible first | exact HB.out | apply below_alloc | apply pw_below_drewN | apply below_drew1) | exact HB.out)) hb); clear HB; have HB := n0_; clear n0_; (try clear hb); (try clear hb2); (try clear hk); (try clear hi)) | ((with_reducible refine gate_callee (f := 33) rfl ?_); refine goesL_ (some 25) rfl rfl Try.func33 (by kernel_rfl) rfl #[.int .u8 (bt a0 a1)] rfl (by (try simp only [List.map_toArray, List.map_cons, List.map_nil]); first | done | rfl | (simp only [List.length_drop, List.length_take]; rfl)) ?_; (with_reducible refine (riverbankref02_Kind.calls k (bt a0 a1) t284 _ A9.out).mono ?_); rintro e w' ⟨rfl, ⟨nd, rfl⟩⟩; refine ⟨_, rfl, ?_⟩) | ((with_reducible refine gate_callee (f := 38) rfl ?_); refine goesL_ (some 110) rfl rfl Try.func38 (by kernel_rfl) rfl #[.int .u8 (bt a0 a1)] rfl (by (try simp only [List.map_toArray, List.map_cons, List.map_nil]); first | done | rfl | (simp only [List.length_drop, List.length_take]; rfl)) ?_; (with_reducible refine (riverbankref02_Side.calls k (bt a0 a1) t291 _ A82.out).mono ?_); rintro e w' ⟨rfl, ⟨nd, rfl⟩⟩; refine ⟨_, rfl, ?_⟩) | ((with_reducible refine gate_callee (f := 109) rfl ?_); refine goesL_ (some 113) rfl rfl Try.func109 (by kernel_rfl) rfl #[.int .i64 t291, .int .i64 a1, .int .i64 a2] rfl (by (try simp only [List.map_toArray, List.map_cons, List.map_nil]); first | done | rfl | (simp only [List.length_drop, List.length_take]; rfl)) ?_; (with_reducible refine (riverbankref05_pawn.calls k t291 a1 a2 t292 _ A83.out).mono ?_); rintro e w86 ⟨rfl, hb⟩; refine ⟨_, rfl, ?_⟩; have n0_ := Aside0.mk (below_step (by repeat (first | (with_reducible first | exact HB.out | apply below_alloc | apply pw_below_drewN | apply below_drew1) | exact HB.out)) hb); clear HB; have HB := n0_; clear n0_; (try clear hb); (try clear hb2); (try clear hk); (try clear hi)))
                  go_ret
                  exact ⟨by first | rfl | (simp [errW_none, errW_some] <;> rfl) | (simp [*, errW_none, errW_some] <;> rfl), by repeat (first | (with_reducible first | exact HB.out | apply below_alloc | apply pw_below_drewN | apply below_drew1) | exact HB.out)⟩
    · rw [if_neg c5] at H
      exact absurd H (by simp)
  · rw [if_neg c4] at H
    exact absurd H (by simp)

/-! ### riverbankref05_Fast: function 49 -/
def riverbankref05_Fast.f (k : Nat) (a0 : ByteArray) (a1 : Int) (a2 : Int) : Option (Bool) := if 0 ≤ a1 then (if a1 < (a0.size : Int) then ((riverbankref02_Side.f k (bt a0 a1)).bind fun t293 => (if t293 < 0 then (some false) else (if 0 ≤ a2 then (if a2 < (a0.size : Int) then ((riverbankref02_Side.f k (bt a0 a2)).bind fun t294 => (if t294 = t293 then (some false) else ((riverbankref05_can.f k a0 a1 a2).bind fun t295 => (some t295)))) else (none)) else (none)))) else (none)) else (none)
theorem riverbankref05_Fast.mono : ∀ a0 a1 a2 k, LeO (riverbankref05_Fast.f k a0 a1 a2) (riverbankref05_Fast.f (k + 1) a0 a1 a2) := by
  intro a0 a1 a2 k
  unfold riverbankref05_Fast.f
  repeat' first
      | (with_reducible exact riverbankref02_Side.mono _ _)
      | (with_reducible exact riverbankref05_can.mono _ _ _ _)
      | (with_reducible exact LeO.refl _)
      | (with_reducible exact LeO.none _)
      | (with_reducible refine LeO.ite ?_ ?_)
      | (with_reducible refine LeO.bind ?_ (fun _ => ?_))
      | exact riverbankref02_Side.mono _ _
      | exact riverbankref05_can.mono _ _ _ _
      | exact LeO.none _
      | refine LeO.ite ?_ ?_
      | refine LeO.bind ?_ (fun _ => ?_)
set_option maxHeartbeats 8000000 in
set_option maxRecDepth 100000 in
theorem riverbankref05_Fast.calls (k : Nat) (a0 : ByteArray) (a1 : Int) (a2 : Int) (r : Bool) (w : World) (h : riverbankref05_Fast.f k a0 a1 a2 = some r) :
    Calls Try.prog 49 #[.string a0, .int .i64 a1, .int .i64 a2] w fun e w' => e = .returned (.bool r) ∧ Below w.heap.size w w' := by
  have HB := Aside0.mk (Below.refl w.heap.size w)
  have H : (if 0 ≤ a1 then (if a1 < (a0.size : Int) then ((riverbankref02_Side.f k (bt a0 a1)).bind fun t293 => (if t293 < 0 then (some false) else (if 0 ≤ a2 then (if a2 < (a0.size : Int) then ((riverbankref02_Side.f k (bt a0 a2)).bind fun t294 => (if t294 = t293 then (some false) else ((riverbankref05_can.f k a0 a1 a2).bind fun t295 => (some t295)))) else (none)) else (none)))) else (none)) else (none)) = some r := h
  clear h
  by_cases c4 : 0 ≤ a1
  · rw [if_pos c4] at H
    have c4b0 : decide (0 ≤ a1) = true := decide_eq_true c4
    clear c4
    by_cases c5 : a1 < (a0.size : Int)
    · rw [if_pos c5] at H
      have c5b0 : decide (a1 < (a0.size : Int)) = true := decide_eq_true c5
      clear c5
      replace H := Option.bind_eq_some_iff.mp H
      obtain ⟨t293, A70, H⟩ := H
      replace H : (if t293 < 0 then (some false) else (if 0 ≤ a2 then (if a2 < (a0.size : Int) then ((riverbankref02_Side.f k (bt a0 a2)).bind fun t294 => (if t294 = t293 then (some false) else ((riverbankref05_can.f k a0 a1 a2).bind fun t295 => (some t295)))) else (none)) else (none))) = some r := H
      have A7 := Aside0.mk A70
      clear A70
      by_cases c8 : t293 < 0
      · rw [if_pos c8] at H
        have c8b0 : decide (t293 < 0) = true := decide_eq_true c8
        clear c8
        obtain rfl := Option.some.inj H
        have p6 : 0 ≤ (a1 : Int) := of_decide_eq_true (by first | (with_reducible assumption) | assumption)
        have q6 : a1 < (a0.size : Int) := of_decide_eq_true (by first | (with_reducible assumption) | assumption)
        have hx6 := bt_at a0 a1
        replace p6 := eq_true p6
        replace q6 := eq_true q6
        go_enter Try.func49, Try.ntmps49
        go_wp2_with (first | ((with_reducible refine gate_callee (f := 38) rfl ?_); refine goesL_ (some 11) rfl rfl Try.func38 (by kernel_rfl) rfl #[.int .u8 (bt a0 a1)] rfl (by (try simp only [List.map_toArray, List.map_cons, List.map_nil]); first | done | rfl | (simp only [List.length_drop, List.length_take]; rfl)) ?_; (with_reducible refine (riverbankref02_Side.calls k (bt a0 a1) t293 _ A7.out).mono ?_); rintro e w' ⟨rfl, ⟨nd, rfl⟩⟩; refine ⟨_, rfl, ?_⟩))
        go_ret
        exact ⟨by first | rfl | (simp [errW_none, errW_some] <;> rfl) | (simp [*, errW_none, errW_some] <;> rfl), by repeat (first | (with_reducible first | exact HB.out | apply below_alloc | apply pw_below_drewN | apply below_drew1) | exact HB.out)⟩
      · rw [if_neg c8] at H
        have c8b0 : decide (t293 < 0) = false := decide_eq_false c8
        clear c8
        by_cases c9 : 0 ≤ a2
        · rw [if_pos c9] at H
          have c9b0 : decide (0 ≤ a2) = true := decide_eq_true c9
          clear c9
          by_cases c10 : a2 < (a0.size : Int)
          · rw [if_pos c10] at H
            have c10b0 : decide (a2 < (a0.size : Int)) = true := decide_eq_true c10
            clear c10
            replace H := Option.bind_eq_some_iff.mp H
            obtain ⟨t294, A120, H⟩ := H
            replace H : (if t294 = t293 then (some false) else ((riverbankref05_can.f k a0 a1 a2).bind fun t295 => (some t295))) = some r := H
            have A12 := Aside0.mk A120
            clear A120
            by_cases c13 : t294 = t293
            · rw [if_pos c13] at H
              have c13b0 : (t294 == t293) = true := beq_iff_eq.mpr c13
              have c13b1 : (t294 != t293) = false := bne_eq_false_iff_eq.mpr c13
              clear c13
              obtain rfl := Option.some.inj H
              have p6 : 0 ≤ (a1 : Int) := of_decide_eq_true (by first | (with_reducible assumption) | assumption)
              have q6 : a1 < (a0.size : Int) := of_decide_eq_true (by first | (with_reducible assumption) | assumption)
              have hx6 := bt_at a0 a1
              replace p6 := eq_true p6
              replace q6 := eq_true q6
              go_enter Try.func49, Try.ntmps49
              go_wp2_with (first | ((with_reducible refine gate_callee (f := 38) rfl ?_); refine goesL_ (some 11) rfl rfl Try.func38 (by kernel_rfl) rfl #[.int .u8 (bt a0 a1)] rfl (by (try simp only [List.map_toArray, List.map_cons, List.map_nil]); first | done | rfl | (simp only [List.length_drop, List.length_take]; rfl)) ?_; (with_reducible refine (riverbankref02_Side.calls k (bt a0 a1) t293 _ A7.out).mono ?_); rintro e w' ⟨rfl, ⟨nd, rfl⟩⟩; refine ⟨_, rfl, ?_⟩; have p11 : 0 ≤ (a2 : Int) := of_decide_eq_true (by first | (with_reducible assumption) | assumption); have q11 : a2 < (a0.size : Int) := of_decide_eq_true (by first | (with_reducible assumption) | assumption); have hx11 := bt_at a0 a2; replace p11 := eq_true p11; replace q11 := eq_true q11) | (go_at_call 38; (with_reducible refine (riverbankref02_Side.calls k (bt a0 a2) t294 _ A12.out).mono ?_); rintro e w' ⟨rfl, ⟨nd, rfl⟩⟩))
              go_ret
              exact ⟨by first | rfl | (simp [errW_none, errW_some] <;> rfl) | (simp [*, errW_none, errW_some] <;> rfl), by repeat (first | (with_reducible first | exact HB.out | apply below_alloc | apply pw_below_drewN | apply below_drew1) | exact HB.out)⟩
            · rw [if_neg c13] at H
              have c13b0 : (t294 == t293) = false := beq_eq_false_iff_ne.mpr c13
              have c13b1 : (t294 != t293) = true := bne_iff_ne.mpr c13
              replace H := Option.bind_eq_some_iff.mp H
              obtain ⟨t295, A140, H⟩ := H
              replace H : (some t295) = some r := H
              have A14 := Aside0.mk A140
              clear A140
              obtain rfl := Option.some.inj H
              have p6 : 0 ≤ (a1 : Int) := of_decide_eq_true (by first | (with_reducible assumption) | assumption)
              have q6 : a1 < (a0.size : Int) := of_decide_eq_true (by first | (with_reducible assumption) | assumption)
              have hx6 := bt_at a0 a1
              replace p6 := eq_true p6
              replace q6 := eq_true q6
              go_enter Try.func49, Try.ntmps49
              go_wp2_with (first | ((with_reducible refine gate_callee (f := 38) rfl ?_); refine goesL_ (some 11) rfl rfl Try.func38 (by kernel_rfl) rfl #[.int .u8 (bt a0 a1)] rfl (by (try simp only [List.map_toArray, List.map_cons, List.map_nil]); first | done | rfl | (simp only [List.length_drop, List.length_take]; rfl)) ?_; (with_reducible refine (riverbankref02_Side.calls k (bt a0 a1) t293 _ A7.out).mono ?_); rintro e w' ⟨rfl, ⟨nd, rfl⟩⟩; refine ⟨_, rfl, ?_⟩; have p11 : 0 ≤ (a2 : Int) := of_decide_eq_true (by first | (with_reducible assumption) | assumption); have q11 : a2 < (a0.size : Int) := of_decide_eq_true (by first | (with_reducible assumption) | assumption); have hx11 := bt_at a0 a2; replace p11 := eq_true p11; replace q11 := eq_true q11) | (go_at_call 38; (with_reducible refine (riverbankref02_Side.calls k (bt a0 a2) t294 _ A12.out).mono ?_); rintro e w' ⟨rfl, ⟨nd, rfl⟩⟩) | ((with_reducible refine gate_callee (f := 79) rfl ?_); refine goesL_ (some 25) rfl rfl Try.func79 (by kernel_rfl) rfl #[.string a0, .int .i64 a1, .int .i64 a2] rfl (by (try simp only [List.map_toArray, List.map_cons, List.map_nil]); first | done | rfl | (simp only [List.length_drop, List.length_take]; rfl)) ?_; (with_reducible refine (riverbankref05_can.calls k a0 a1 a2 t295 _ A14.out).mono ?_); rintro e w15 ⟨rfl, hb⟩; refine ⟨_, rfl, ?_⟩; have n0_ := Aside0.mk (below_step (by repeat (first | (with_reducible first | exact HB.out | apply below_alloc | apply pw_below_drewN | apply below_drew1) | exact HB.out)) hb); clear HB; have HB := n0_; clear n0_; (try clear hb); (try clear hb2); (try clear hk); (try clear hi)))
              go_ret
              exact ⟨by first | rfl | (simp [errW_none, errW_some] <;> rfl) | (simp [*, errW_none, errW_some] <;> rfl), by repeat (first | (with_reducible first | exact HB.out | apply below_alloc | apply pw_below_drewN | apply below_drew1) | exact HB.out)⟩
          · rw [if_neg c10] at H
            exact absurd H (by simp)
        · rw [if_neg c9] at H
          exact absurd H (by simp)
    · rw [if_neg c5] at H
      exact absurd H (by simp)
  · rw [if_neg c4] at H
    exact absurd H (by simp)

end Go.Proofs.Ytcanbidenhcohaa.P
