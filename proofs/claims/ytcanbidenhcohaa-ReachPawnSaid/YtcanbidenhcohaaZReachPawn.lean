/- ReachPawn: for every text and every square a with a pawn on it: each square that All lists is one rank ahead on the same file, or beside it once it is over the water; and there are at most three. No condition of ours. -/
import Derived.Test.YtcanbidenhcohaaRows
import Derived.WalkKit
import Derived.ProofKit
import Derived.OpenShut
import Derived.ShutString
import Derived.ChangeOld
import Derived.Below
import Derived.SizedLaws
import Derived.Test.YtcanbidenhcohaaB1
import Derived.Test.YtcanbidenhcohaaB3
import Derived.Test.YtcanbidenhcohaaB8
import Derived.Test.YtcanbidenhcohaaB7
import Derived.Test.YtcanbidenhcohaaB9

/- Walks of Go functions, one Lean function and one contract for each, written by a program of this session out of the translation. -/
namespace Go.Proofs.Ytcanbidenhcohaa.P
open Go.RowKit Go.Proofs.YtcanbidenhcohaaW.PrintWords Go.Proofs.YtcanbidenhcohaaW.PrintLast Go.Proofs.YtcanbidenhcohaaW.PrintMore
attribute [local go_sem] max2_int min2_int max_two min_two max_three min_three max_four min_four   -- for this text's walks alone
set_option linter.unusedVariables false
set_option linter.unusedSimpArgs false

/-! ### riverbanklaw05_ReachTurn: function 4 -/
def riverbanklaw05_ReachTurn.j0 : Nat → ByteArray → Int → Int → Bool → Option (Bool)
  | 0, _, _, _, _ => none
  | k + 1, x0, x1, x2, x26 => if x26 = true then ((riverbanklaw05_live.f).bind fun t334 => (some t334)) else ((riverbankref02_Turn.f k x0).bind fun t335 => ((reach_Can.f k x0 x1 x2).bind fun t336 => ((reach_Can.f k t335 (wrap64 (89 - x1)) (wrap64 (89 - x2))).bind fun t337 => (if (t336 == t337) = true then ((reach_Between.f k x0 x1 x2).bind fun t338 => ((reach_Between.f k t335 (wrap64 (89 - x1)) (wrap64 (89 - x2))).bind fun t339 => (if t338 = t339 then ((reach_Between.f k x0 x1 x2).bind fun t340 => ((reach_Between.f k x0 x2 x1).bind fun t341 => (if t340 = t341 then ((riverbanklaw05_live.f).bind fun t342 => (some t342)) else (some false)))) else (some false)))) else (some false)))))
def riverbanklaw05_ReachTurn.f (k : Nat) (a0 : ByteArray) (a1 : Int) (a2 : Int) : Option (Bool) := if (a0.size : Int) > 200 then (riverbanklaw05_ReachTurn.j0 k a0 a1 a2 true) else (if a1 < 0 then (riverbanklaw05_ReachTurn.j0 k a0 a1 a2 true) else (if a1 > 89 then (riverbanklaw05_ReachTurn.j0 k a0 a1 a2 true) else (if a2 < 0 then (riverbanklaw05_ReachTurn.j0 k a0 a1 a2 true) else (riverbanklaw05_ReachTurn.j0 k a0 a1 a2 (decide (a2 > 89))))))
theorem riverbanklaw05_ReachTurn.mono_l : ∀ k, (∀ y0 y1 y2 y3, LeO (riverbanklaw05_ReachTurn.j0 k y0 y1 y2 y3) (riverbanklaw05_ReachTurn.j0 (k + 1) y0 y1 y2 y3))
  | 0 => fun _ _ _ _ r h => by simp [riverbanklaw05_ReachTurn.j0] at h
  | k + 1 => by
    have ih0 := riverbanklaw05_ReachTurn.mono_l k
    · intro y0 y1 y2 y3
      unfold riverbanklaw05_ReachTurn.j0
      repeat' first
      | (with_reducible exact ih0 _ _ _ _)
      | (with_reducible exact reach_Between.mono _ _ _ _)
      | (with_reducible exact reach_Can.mono _ _ _ _)
      | (with_reducible exact riverbankref02_Turn.mono _ _)
      | (with_reducible exact LeO.refl _)
      | (with_reducible exact LeO.none _)
      | (with_reducible refine LeO.ite ?_ ?_)
      | (with_reducible refine LeO.bind ?_ (fun _ => ?_))
      | exact ih0 _ _ _ _
      | exact reach_Between.mono _ _ _ _
      | exact reach_Can.mono _ _ _ _
      | exact riverbankref02_Turn.mono _ _
      | exact LeO.none _
      | refine LeO.ite ?_ ?_
      | refine LeO.bind ?_ (fun _ => ?_)
theorem riverbanklaw05_ReachTurn.mono : ∀ a0 a1 a2 k, LeO (riverbanklaw05_ReachTurn.f k a0 a1 a2) (riverbanklaw05_ReachTurn.f (k + 1) a0 a1 a2) := by
  intro a0 a1 a2 k
  have ih0 := riverbanklaw05_ReachTurn.mono_l k
  unfold riverbanklaw05_ReachTurn.f
  repeat' first
      | (with_reducible exact ih0 _ _ _ _)
      | (with_reducible exact reach_Between.mono _ _ _ _)
      | (with_reducible exact reach_Can.mono _ _ _ _)
      | (with_reducible exact riverbankref02_Turn.mono _ _)
      | (with_reducible exact LeO.refl _)
      | (with_reducible exact LeO.none _)
      | (with_reducible refine LeO.ite ?_ ?_)
      | (with_reducible refine LeO.bind ?_ (fun _ => ?_))
      | exact ih0 _ _ _ _
      | exact reach_Between.mono _ _ _ _
      | exact reach_Can.mono _ _ _ _
      | exact riverbankref02_Turn.mono _ _
      | exact LeO.none _
      | refine LeO.ite ?_ ?_
      | refine LeO.bind ?_ (fun _ => ?_)
set_option maxHeartbeats 8000000 in
set_option maxRecDepth 100000 in
theorem riverbanklaw05_ReachTurn.calls (k : Nat) (a0 : ByteArray) (a1 : Int) (a2 : Int) (r : Bool) (w : World) (h : riverbanklaw05_ReachTurn.f k a0 a1 a2 = some r) :
    Calls Try.prog 4 #[.string a0, .int .i64 a1, .int .i64 a2] w fun e w' => e = .returned (.bool r) ∧ Below w.heap.size w w' := by
  have HB := Aside0.mk (Below.refl w.heap.size w)
  have H : (if (a0.size : Int) > 200 then (riverbanklaw05_ReachTurn.j0 k a0 a1 a2 true) else (if a1 < 0 then (riverbanklaw05_ReachTurn.j0 k a0 a1 a2 true) else (if a1 > 89 then (riverbanklaw05_ReachTurn.j0 k a0 a1 a2 true) else (if a2 < 0 then (riverbanklaw05_ReachTurn.j0 k a0 a1 a2 true) else (riverbanklaw05_ReachTurn.j0 k a0 a1 a2 (decide (a2 > 89))))))) = some r := h
  clear h
  have HC4 := Aside0.mk H
  clear H
  go_enter Try.func4, Try.ntmps4
  go_upto_region 1 with (fail)
  go_cut [26] (fun v26 wc => ∃ (kq : Nat) (x26_3 : Bool), v26 = .bool x26_3 ∧ Aside0 (riverbanklaw05_ReachTurn.j0 kq a0 a1 a2 x26_3 = some r) ∧ Aside0 (kq ≤ k) ∧ Aside0 (Below w.heap.size w wc))
  case first =>
    have H := HC4.out
    clear HC4
    by_cases c5 : (a0.size : Int) > 200
    · rw [if_pos c5] at H
      have c5b0 : decide (200 < (a0.size : Int)) = true := decide_eq_true c5
      have c5b1 : decide (200 < a0.size) = true := decide_eq_true (by omega)
      clear c5
      (first | rw [c5b0] | (simp only [i64_w, i32_w]; rw [c5b0]) | skip)
      have H' := Aside0.mk H
      clear H
      go_wp2
      go_meet
      case rel => exact ⟨_, (true), (by first | rfl | (simp; done) | (simp [*]; done)), H', ⟨by first | omega | exact Nat.le_refl _⟩, ⟨by repeat (first | (with_reducible first | exact HB.out | apply below_alloc | apply pw_below_drewN | apply below_drew1) | exact HB.out)⟩⟩
    · rw [if_neg c5] at H
      have c5b0 : decide (200 < (a0.size : Int)) = false := decide_eq_false c5
      have c5b1 : decide (200 < a0.size) = false := decide_eq_false (by omega)
      clear c5
      (first | rw [c5b0] | (simp only [i64_w, i32_w]; rw [c5b0]) | skip)
      by_cases c6 : a1 < 0
      · rw [if_pos c6] at H
        have c6b0 : decide (a1 < 0) = true := decide_eq_true c6
        clear c6
        have H' := Aside0.mk H
        clear H
        go_wp2
        go_meet
        case rel => exact ⟨_, (true), (by first | rfl | (simp; done) | (simp [*]; done)), H', ⟨by first | omega | exact Nat.le_refl _⟩, ⟨by repeat (first | (with_reducible first | exact HB.out | apply below_alloc | apply pw_below_drewN | apply below_drew1) | exact HB.out)⟩⟩
      · rw [if_neg c6] at H
        have c6b0 : decide (a1 < 0) = false := decide_eq_false c6
        clear c6
        by_cases c7 : a1 > 89
        · rw [if_pos c7] at H
          have c7b0 : decide (89 < a1) = true := decide_eq_true c7
          clear c7
          have H' := Aside0.mk H
          clear H
          go_wp2
          go_meet
          case rel => exact ⟨_, (true), (by first | rfl | (simp; done) | (simp [*]; done)), H', ⟨by first | omega | exact Nat.le_refl _⟩, ⟨by repeat (first | (with_reducible first | exact HB.out | apply below_alloc | apply pw_below_drewN | apply below_drew1) | exact HB.out)⟩⟩
        · rw [if_neg c7] at H
          have c7b0 : decide (89 < a1) = false := decide_eq_false c7
          clear c7
          by_cases c8 : a2 < 0
          · rw [if_pos c8] at H
            have c8b0 : decide (a2 < 0) = true := decide_eq_true c8
            clear c8
            have H' := Aside0.mk H
            clear H
            go_wp2
            go_meet
            case rel => exact ⟨_, (true), (by first | rfl | (simp; done) | (simp [*]; done)), H', ⟨by first | omega | exact Nat.le_refl _⟩, ⟨by repeat (first | (with_reducible first | exact HB.out | apply below_alloc | apply pw_below_drewN | apply below_drew1) | exact HB.out)⟩⟩
          · rw [if_neg c8] at H
            have c8b0 : decide (a2 < 0) = false := decide_eq_false c8
            clear c8
            have H' := Aside0.mk H
            clear H
            go_wp2
            go_meet
            case rel => exact ⟨_, (decide (a2 > 89)), (by first | rfl | (simp; done) | (simp [*]; done)), H', ⟨by first | omega | exact Nat.le_refl _⟩, ⟨by repeat (first | (with_reducible first | exact HB.out | apply below_alloc | apply pw_below_drewN | apply below_drew1) | exact HB.out)⟩⟩
  case rest =>
    clear HC4
    try clear p2
    try clear c4
    try clear c5
    try clear c5b0
    try clear c5b1
    try clear c6
    try clear c6b0
    try clear c7
    try clear c7b0
    try clear c8
    try clear c8b0
    obtain ⟨kq, x26_3, rfl, HA, HJ3, HB⟩ := hcut
    cases kq with
    | zero => exact absurd HA.out (by simp [riverbanklaw05_ReachTurn.j0])
    | succ kj3 =>
      have H := HA.out
      clear HA
      simp only [riverbanklaw05_ReachTurn.j0] at H
      by_cases c9 : x26_3 = true
      · subst c9
        have H1 : ((riverbanklaw05_live.f).bind fun t334 => (some t334)) = some r := by rw [if_pos rfl] at H; exact H
        clear H
        have H := H1
        clear H1
        replace H := Option.bind_eq_some_iff.mp H
        obtain ⟨t334, A100, H⟩ := H
        replace H : (some t334) = some r := H
        have A10 := Aside0.mk A100
        clear A100
        obtain rfl := Option.some.inj H
        go_wp2_with (first | ((with_reducible refine gate_callee (f := 13) rfl ?_); refine goesL_ (some 27) rfl rfl Try.func13 (by kernel_rfl) rfl #[] rfl (by (try simp only [List.map_toArray, List.map_cons, List.map_nil]); first | done | rfl | (simp only [List.length_drop, List.length_take]; rfl)) ?_; (with_reducible refine (riverbanklaw05_live.calls  t334 _ A10.out).mono ?_); rintro e w11 ⟨rfl, hb⟩; refine ⟨_, rfl, ?_⟩; have n0_ := Aside0.mk (below_step (by repeat (first | (with_reducible first | exact HB.out | apply below_alloc | apply pw_below_drewN | apply below_drew1) | exact HB.out)) hb); clear HB; have HB := n0_; clear n0_; (try clear hb); (try clear hb2); (try clear hk); (try clear hi)))
        go_ret
        exact ⟨by first | rfl | (simp [errW_none, errW_some] <;> rfl) | (simp [*, errW_none, errW_some] <;> rfl), by repeat (first | (with_reducible first | exact HB.out | apply below_alloc | apply pw_below_drewN | apply below_drew1) | exact HB.out)⟩
      · replace c9 := Bool.eq_false_iff.mpr c9
        subst c9
        have H1 : ((riverbankref02_Turn.f kj3 a0).bind fun t335 => ((reach_Can.f kj3 a0 a1 a2).bind fun t336 => ((reach_Can.f kj3 t335 (wrap64 (89 - a1)) (wrap64 (89 - a2))).bind fun t337 => (if (t336 == t337) = true then ((reach_Between.f kj3 a0 a1 a2).bind fun t338 => ((reach_Between.f kj3 t335 (wrap64 (89 - a1)) (wrap64 (89 - a2))).bind fun t339 => (if t338 = t339 then ((reach_Between.f kj3 a0 a1 a2).bind fun t340 => ((reach_Between.f kj3 a0 a2 a1).bind fun t341 => (if t340 = t341 then ((riverbanklaw05_live.f).bind fun t342 => (some t342)) else (some false)))) else (some false)))) else (some false))))) = some r := by rw [if_neg (show ¬ (false = true) by decide)] at H; exact H
        clear H
        have H := H1
        clear H1
        replace H := Option.bind_eq_some_iff.mp H
        obtain ⟨t335, A120, H⟩ := H
        replace H : ((reach_Can.f kj3 a0 a1 a2).bind fun t336 => ((reach_Can.f kj3 t335 (wrap64 (89 - a1)) (wrap64 (89 - a2))).bind fun t337 => (if (t336 == t337) = true then ((reach_Between.f kj3 a0 a1 a2).bind fun t338 => ((reach_Between.f kj3 t335 (wrap64 (89 - a1)) (wrap64 (89 - a2))).bind fun t339 => (if t338 = t339 then ((reach_Between.f kj3 a0 a1 a2).bind fun t340 => ((reach_Between.f kj3 a0 a2 a1).bind fun t341 => (if t340 = t341 then ((riverbanklaw05_live.f).bind fun t342 => (some t342)) else (some false)))) else (some false)))) else (some false)))) = some r := H
        have A12 := Aside0.mk A120
        clear A120
        replace H := Option.bind_eq_some_iff.mp H
        obtain ⟨t336, A130, H⟩ := H
        replace H : ((reach_Can.f kj3 t335 (wrap64 (89 - a1)) (wrap64 (89 - a2))).bind fun t337 => (if (t336 == t337) = true then ((reach_Between.f kj3 a0 a1 a2).bind fun t338 => ((reach_Between.f kj3 t335 (wrap64 (89 - a1)) (wrap64 (89 - a2))).bind fun t339 => (if t338 = t339 then ((reach_Between.f kj3 a0 a1 a2).bind fun t340 => ((reach_Between.f kj3 a0 a2 a1).bind fun t341 => (if t340 = t341 then ((riverbanklaw05_live.f).bind fun t342 => (some t342)) else (some false)))) else (some false)))) else (some false))) = some r := H
        have A13 := Aside0.mk A130
        clear A130
        replace H := Option.bind_eq_some_iff.mp H
        obtain ⟨t337, A140, H⟩ := H
        replace H : (if (t336 == t337) = true then ((reach_Between.f kj3 a0 a1 a2).bind fun t338 => ((reach_Between.f kj3 t335 (wrap64 (89 - a1)) (wrap64 (89 - a2))).bind fun t339 => (if t338 = t339 then ((reach_Between.f kj3 a0 a1 a2).bind fun t340 => ((reach_Between.f kj3 a0 a2 a1).bind fun t341 => (if t340 = t341 then ((riverbanklaw05_live.f).bind fun t342 => (some t342)) else (some false)))) else (some false)))) else (some false)) = some r := H
        have A14 := Aside0.mk A140
        clear A140
        by_cases c15 : (t336 == t337) = true
        · rw [if_pos c15] at H
          have c15b0 : (t336 == t337) = true := c15
          (try (have c15b1 : decide (t336 = t337) = true := by simpa using c15))
          (try (have c15b2 : (t336 == t337) = true := by simpa using c15))
          clear c15
          replace H := Option.bind_eq_some_iff.mp H
          obtain ⟨t338, A160, H⟩ := H
          replace H : ((reach_Between.f kj3 t335 (wrap64 (89 - a1)) (wrap64 (89 - a2))).bind fun t339 => (if t338 = t339 then ((reach_Between.f kj3 a0 a1 a2).bind fun t340 => ((reach_Between.f kj3 a0 a2 a1).bind fun t341 => (if t340 = t341 then ((riverbanklaw05_live.f).bind fun t342 => (some t342)) else (some false)))) else (some false))) = some r := H
          have A16 := Aside0.mk A160
          clear A160
          replace H := Option.bind_eq_some_iff.mp H
          obtain ⟨t339, A170, H⟩ := H
          replace H : (if t338 = t339 then ((reach_Between.f kj3 a0 a1 a2).bind fun t340 => ((reach_Between.f kj3 a0 a2 a1).bind fun t341 => (if t340 = t341 then ((riverbanklaw05_live.f).bind fun t342 => (some t342)) else (some false)))) else (some false)) = some r := H
          have A17 := Aside0.mk A170
          clear A170
          by_cases c18 : t338 = t339
          · rw [if_pos c18] at H
            have c18b0 : (t338 == t339) = true := beq_iff_eq.mpr c18
            have c18b1 : (t338 != t339) = false := bne_eq_false_iff_eq.mpr c18
            clear c18
            replace H := Option.bind_eq_some_iff.mp H
            obtain ⟨t340, A190, H⟩ := H
            obtain rfl : t338 = t340 := Option.some.inj (A16.out.symm.trans A190)
            replace H : ((reach_Between.f kj3 a0 a2 a1).bind fun t341 => (if t338 = t341 then ((riverbanklaw05_live.f).bind fun t342 => (some t342)) else (some false))) = some r := H
            have A19 := Aside0.mk A190
            clear A190
            replace H := Option.bind_eq_some_iff.mp H
            obtain ⟨t341, A200, H⟩ := H
            replace H : (if t338 = t341 then ((riverbanklaw05_live.f).bind fun t342 => (some t342)) else (some false)) = some r := H
            have A20 := Aside0.mk A200
            clear A200
            by_cases c21 : t338 = t341
            · rw [if_pos c21] at H
              have c21b0 : (t338 == t341) = true := beq_iff_eq.mpr c21
              have c21b1 : (t338 != t341) = false := bne_eq_false_iff_eq.mpr c21
              clear c21
              replace H := Option.bind_eq_some_iff.mp H
              obtain ⟨t342, A220, H⟩ := H
              replace H : (some t342) = some r := H
              have A22 := Aside0.mk A220
              clear A220
              obtain rfl := Option.some.inj H
              go_wp2_with (first | ((with_reducible refine gate_callee (f := 21) rfl ?_); refine goesL_ (some 29) rfl rfl Try.func21 (by kernel_rfl) rfl #[.string a0] rfl (by (try simp only [List.map_toArray, List.map_cons, List.map_nil]); first | done | rfl | (simp only [List.length_drop, List.length_take]; rfl)) ?_; (with_reducible refine (riverbankref02_Turn.calls kj3 a0 t335 _ A12.out).mono ?_); rintro e w23 ⟨rfl, hb⟩; refine ⟨_, rfl, ?_⟩; have n0_ := Aside0.mk (below_step (by repeat (first | (with_reducible first | exact HB.out | apply below_alloc | apply pw_below_drewN | apply below_drew1) | exact HB.out)) hb); clear HB; have HB := n0_; clear n0_; (try clear hb); (try clear hb2); (try clear hk); (try clear hi)) | ((with_reducible refine gate_callee (f := 17) rfl ?_); refine goesL_ (some 33) rfl rfl Try.func17 (by kernel_rfl) rfl #[.string a0, .int .i64 a1, .int .i64 a2] rfl (by (try simp only [List.map_toArray, List.map_cons, List.map_nil]); first | done | rfl | (simp only [List.length_drop, List.length_take]; rfl)) ?_; (with_reducible refine (reach_Can.calls kj3 a0 a1 a2 t336 _ A13.out).mono ?_); rintro e w24 ⟨rfl, hb⟩; refine ⟨_, rfl, ?_⟩; have n0_ := Aside0.mk (below_step (by repeat (first | (with_reducible first | exact HB.out | apply below_alloc | apply pw_below_drewN | apply below_drew1) | exact HB.out)) hb); clear HB; have HB := n0_; clear n0_; (try clear hb); (try clear hb2); (try clear hk); (try clear hi)) | ((with_reducible refine gate_callee (f := 17) rfl ?_); refine goesL_ (some 39) rfl rfl Try.func17 (by kernel_rfl) rfl #[.string t335, .int .i64 (wrap64 (89 - a1)), .int .i64 (wrap64 (89 - a2))] rfl (by (try simp only [List.map_toArray, List.map_cons, List.map_nil]); first | done | rfl | (simp only [List.length_drop, List.length_take]; rfl)) ?_; (with_reducible refine (reach_Can.calls kj3 t335 (wrap64 (89 - a1)) (wrap64 (89 - a2)) t337 _ A14.out).mono ?_); rintro e w25 ⟨rfl, hb⟩; refine ⟨_, rfl, ?_⟩; have n0_ := Aside0.mk (below_step (by repeat (first | (with_reducible first | exact HB.out | apply below_alloc | apply pw_below_drewN | apply below_drew1) | exact HB.out)) hb); clear HB; have HB := n0_; clear n0_; (try clear hb); (try clear hb2); (try clear hk); (try clear hi)) | (go_at_call 19; (with_reducible refine (reach_Between.calls kj3 a0 a1 a2 t338 _ A16.out).mono ?_); rintro e w26 ⟨rfl, hb⟩; have n0_ := Aside0.mk (below_step (by repeat (first | (with_reducible first | exact HB.out | apply below_alloc | apply pw_below_drewN | apply below_drew1) | exact HB.out)) hb); clear HB; have HB := n0_; clear n0_; (try clear hb); (try clear hb2); (try clear hk); (try clear hi)) | (go_at_call 19; (with_reducible refine (reach_Between.calls kj3 t335 (wrap64 (89 - a1)) (wrap64 (89 - a2)) t339 _ A17.out).mono ?_); rintro e w27 ⟨rfl, hb⟩; have n0_ := Aside0.mk (below_step (by repeat (first | (with_reducible first | exact HB.out | apply below_alloc | apply pw_below_drewN | apply below_drew1) | exact HB.out)) hb); clear HB; have HB := n0_; clear n0_; (try clear hb); (try clear hb2); (try clear hk); (try clear hi)) | (go_at_call 19; (with_reducible refine (reach_Between.calls kj3 a0 a1 a2 t338 _ A19.out).mono ?_); rintro e w28 ⟨rfl, hb⟩; have n0_ := Aside0.mk (below_step (by repeat (first | (with_reducible first | exact HB.out | apply below_alloc | apply pw_below_drewN | apply below_drew1) | exact HB.out)) hb); clear HB; have HB := n0_; clear n0_; (try clear hb); (try clear hb2); (try clear hk); (try clear hi)) | (go_at_call 19; (with_reducible refine (reach_Between.calls kj3 a0 a2 a1 t341 _ A20.out).mono ?_); rintro e w29 ⟨rfl, hb⟩; have n0_ := Aside0.mk (below_step (by repeat (first | (with_reducible first | exact HB.out | apply below_alloc | apply pw_below_drewN | apply below_drew1) | exact HB.out)) hb); clear HB; have HB := n0_; clear n0_; (try clear hb); (try clear hb2); (try clear hk); (try clear hi)) | (go_at_call 13; (with_reducible refine (riverbanklaw05_live.calls  t342 _ A22.out).mono ?_); rintro e w30 ⟨rfl, hb⟩; have n0_ := Aside0.mk (below_step (by repeat (first | (with_reducible first | exact HB.out | apply below_alloc | apply pw_below_drewN | apply below_drew1) | exact HB.out)) hb); clear HB; have HB := n0_; clear n0_; (try clear hb); (try clear hb2); (try clear hk); (try clear hi)))
              go_ret
              exact ⟨by first | rfl | (simp [errW_none, errW_some] <;> rfl) | (simp [*, errW_none, errW_some] <;> rfl), by repeat (first | (with_reducible first | exact HB.out | apply below_alloc | apply pw_below_drewN | apply below_drew1) | exact HB.out)⟩
            · rw [if_neg c21] at H
              have c21b0 : (t338 == t341) = false := beq_eq_false_iff_ne.mpr c21
              have c21b1 : (t338 != t341) = true := bne_iff_ne.mpr c21
              obtain rfl := Option.some.inj H
              go_wp2_with (first | ((with_reducible refine gate_callee (f := 21) rfl ?_); refine goesL_ (some 29) rfl rfl Try.func21 (by kernel_rfl) rfl #[.string a0] rfl (by (try simp only [List.map_toArray, List.map_cons, List.map_nil]); first | done | rfl | (simp only [List.length_drop, List.length_take]; rfl)) ?_; (with_reducible refine (riverbankref02_Turn.calls kj3 a0 t335 _ A12.out).mono ?_); rintro e w31 ⟨rfl, hb⟩; refine ⟨_, rfl, ?_⟩; have n0_ := Aside0.mk (below_step (by repeat (first | (with_reducible first | exact HB.out | apply below_alloc | apply pw_below_drewN | apply below_drew1) | exact HB.out)) hb); clear HB; have HB := n0_; clear n0_; (try clear hb); (try clear hb2); (try clear hk); (try clear hi)) | ((with_reducible refine gate_callee (f := 17) rfl ?_); refine goesL_ (some 33) rfl rfl Try.func17 (by kernel_rfl) rfl #[.string a0, .int .i64 a1, .int .i64 a2] rfl (by (try simp only [List.map_toArray, List.map_cons, List.map_nil]); first | done | rfl | (simp only [List.length_drop, List.length_take]; rfl)) ?_; (with_reducible refine (reach_Can.calls kj3 a0 a1 a2 t336 _ A13.out).mono ?_); rintro e w32 ⟨rfl, hb⟩; refine ⟨_, rfl, ?_⟩; have n0_ := Aside0.mk (below_step (by repeat (first | (with_reducible first | exact HB.out | apply below_alloc | apply pw_below_drewN | apply below_drew1) | exact HB.out)) hb); clear HB; have HB := n0_; clear n0_; (try clear hb); (try clear hb2); (try clear hk); (try clear hi)) | ((with_reducible refine gate_callee (f := 17) rfl ?_); refine goesL_ (some 39) rfl rfl Try.func17 (by kernel_rfl) rfl #[.string t335, .int .i64 (wrap64 (89 - a1)), .int .i64 (wrap64 (89 - a2))] rfl (by (try simp only [List.map_toArray, List.map_cons, List.map_nil]); first | done | rfl | (simp only [List.length_drop, List.length_take]; rfl)) ?_; (with_reducible refine (reach_Can.calls kj3 t335 (wrap64 (89 - a1)) (wrap64 (89 - a2)) t337 _ A14.out).mono ?_); rintro e w33 ⟨rfl, hb⟩; refine ⟨_, rfl, ?_⟩; have n0_ := Aside0.mk (below_step (by repeat (first | (with_reducible first | exact HB.out | apply below_alloc | apply pw_below_drewN | apply below_drew1) | exact HB.out)) hb); clear HB; have HB := n0_; clear n0_; (try clear hb); (try clear hb2); (try clear hk); (try clear hi)) | (go_at_call 19; (with_reducible refine (reach_Between.calls kj3 a0 a1 a2 t338 _ A16.out).mono ?_); rintro e w34 ⟨rfl, hb⟩; have n0_ := Aside0.mk (below_step (by repeat (first | (with_reducible first | exact HB.out | apply below_alloc | apply pw_below_drewN | apply below_drew1) | exact HB.out)) hb); clear HB; have HB := n0_; clear n0_; (try clear hb); (try clear hb2); (try clear hk); (try clear hi)) | (go_at_call 19; (with_reducible refine (reach_Between.calls kj3 t335 (wrap64 (89 - a1)) (wrap64 (89 - a2)) t339 _ A17.out).mono ?_); rintro e w35 ⟨rfl, hb⟩; have n0_ := Aside0.mk (below_step (by repeat (first | (with_reducible first | exact HB.out | apply below_alloc | apply pw_below_drewN | apply below_drew1) | exact HB.out)) hb); clear HB; have HB := n0_; clear n0_; (try clear hb); (try clear hb2); (try clear hk); (try clear hi)) | (go_at_call 19; (with_reducible refine (reach_Between.calls kj3 a0 a1 a2 t338 _ A19.out).mono ?_); rintro e w36 ⟨rfl, hb⟩; have n0_ := Aside0.mk (below_step (by repeat (first | (with_reducible first | exact HB.out | apply below_alloc | apply pw_below_drewN | apply below_drew1) | exact HB.out)) hb); clear HB; have HB := n0_; clear n0_; (try clear hb); (try clear hb2); (try clear hk); (try clear hi)) | (go_at_call 19; (with_reducible refine (reach_Between.calls kj3 a0 a2 a1 t341 _ A20.out).mono ?_); rintro e w37 ⟨rfl, hb⟩; have n0_ := Aside0.mk (below_step (by repeat (first | (with_reducible first | exact HB.out | apply below_alloc | apply pw_below_drewN | apply below_drew1) | exact HB.out)) hb); clear HB; have HB := n0_; clear n0_; (try clear hb); (try clear hb2); (try clear hk); (try clear hi)))
              go_ret
              exact ⟨by first | rfl | (simp [errW_none, errW_some] <;> rfl) | (simp [*, errW_none, errW_some] <;> rfl), by repeat (first | (with_reducible first | exact HB.out | apply below_alloc | apply pw_below_drewN | apply below_drew1) | exact HB.out)⟩
          · rw [if_neg c18] at H
            have c18b0 : (t338 == t339) = false := beq_eq_false_iff_ne.mpr c18
            have c18b1 : (t338 != t339) = true := bne_iff_ne.mpr c18
            obtain rfl := Option.some.inj H
            go_wp2_with (first | ((with_reducible refine gate_callee (f := 21) rfl ?_); refine goesL_ (some 29) rfl rfl Try.func21 (by kernel_rfl) rfl #[.string a0] rfl (by (try simp only [List.map_toArray, List.map_cons, List.map_nil]); first | done | rfl | (simp only [List.length_drop, List.length_take]; rfl)) ?_; (with_reducible refine (riverbankref02_Turn.calls kj3 a0 t335 _ A12.out).mono ?_); rintro e w38 ⟨rfl, hb⟩; refine ⟨_, rfl, ?_⟩; have n0_ := Aside0.mk (below_step (by repeat (first | (with_reducible first | exact HB.out | apply below_alloc | apply pw_below_drewN | apply below_drew1) | exact HB.out)) hb); clear HB; have HB := n0_; clear n0_; (try clear hb); (try clear hb2); (try clear hk); (try clear hi)) | ((with_reducible refine gate_callee (f := 17) rfl ?_); refine goesL_ (some 33) rfl rfl Try.func17 (by kernel_rfl) rfl #[.string a0, .int .i64 a1, .int .i64 a2] rfl (by (try simp only [List.map_toArray, List.map_cons, List.map_nil]); first | done | rfl | (simp only [List.length_drop, List.length_take]; rfl)) ?_; (with_reducible refine (reach_Can.calls kj3 a0 a1 a2 t336 _ A13.out).mono ?_); rintro e w39 ⟨rfl, hb⟩; refine ⟨_, rfl, ?_⟩; have n0_ := Aside0.mk (below_step (by repeat (first | (with_reducible first | exact HB.out | apply below_alloc | apply pw_below_drewN | apply below_drew1) | exact HB.out)) hb); clear HB; have HB := n0_; clear n0_; (try clear hb); (try clear hb2); (try clear hk); (try clear hi)) | ((with_reducible refine gate_callee (f := 17) rfl ?_); refine goesL_ (some 39) rfl rfl Try.func17 (by kernel_rfl) rfl #[.string t335, .int .i64 (wrap64 (89 - a1)), .int .i64 (wrap64 (89 - a2))] rfl (by (try simp only [List.map_toArray, List.map_cons, List.map_nil]); first | done | rfl | (simp only [List.length_drop, List.length_take]; rfl)) ?_; (with_reducible refine (reach_Can.calls kj3 t335 (wrap64 (89 - a1)) (wrap64 (89 - a2)) t337 _ A14.out).mono ?_); rintro e w40 ⟨rfl, hb⟩; refine ⟨_, rfl, ?_⟩; have n0_ := Aside0.mk (below_step (by repeat (first | (with_reducible first | exact HB.out | apply below_alloc | apply pw_below_drewN | apply below_drew1) | exact HB.out)) hb); clear HB; have HB := n0_; clear n0_; (try clear hb); (try clear hb2); (try clear hk); (try clear hi)) | (go_at_call 19; (with_reducible refine (reach_Between.calls kj3 a0 a1 a2 t338 _ A16.out).mono ?_); rintro e w41 ⟨rfl, hb⟩; have n0_ := Aside0.mk (below_step (by repeat (first | (with_reducible first | exact HB.out | apply below_alloc | apply pw_below_drewN | apply below_drew1) | exact HB.out)) hb); clear HB; have HB := n0_; clear n0_; (try clear hb); (try clear hb2); (try clear hk); (try clear hi)) | (go_at_call 19; (with_reducible refine (reach_Between.calls kj3 t335 (wrap64 (89 - a1)) (wrap64 (89 - a2)) t339 _ A17.out).mono ?_); rintro e w42 ⟨rfl, hb⟩; have n0_ := Aside0.mk (below_step (by repeat (first | (with_reducible first | exact HB.out | apply below_alloc | apply pw_below_drewN | apply below_drew1) | exact HB.out)) hb); clear HB; have HB := n0_; clear n0_; (try clear hb); (try clear hb2); (try clear hk); (try clear hi)))
            go_ret
            exact ⟨by first | rfl | (simp [errW_none, errW_some] <;> rfl) | (simp [*, errW_none, errW_some] <;> rfl), by repeat (first | (with_reducible first | exact HB.out | apply below_alloc | apply pw_below_drewN | apply below_drew1) | exact HB.out)⟩
        · rw [if_neg c15] at H
          have c15b0 : (t336 == t337) = false := by simpa using c15
          (try (have c15b1 : decide (t336 = t337) = false := by simpa using c15))
          (try (have c15b2 : (t336 == t337) = false := by simpa using c15))
          (try (have c15b3 : ¬ (t336 = t337) := by simpa using c15))
          clear c15
          obtain rfl := Option.some.inj H
          go_wp2_with (first | ((with_reducible refine gate_callee (f := 21) rfl ?_); refine goesL_ (some 29) rfl rfl Try.func21 (by kernel_rfl) rfl #[.string a0] rfl (by (try simp only [List.map_toArray, List.map_cons, List.map_nil]); first | done | rfl | (simp only [List.length_drop, List.length_take]; rfl)) ?_; (with_reducible refine (riverbankref02_Turn.calls kj3 a0 t335 _ A12.out).mono ?_); rintro e w43 ⟨rfl, hb⟩; refine ⟨_, rfl, ?_⟩; have n0_ := Aside0.mk (below_step (by repeat (first | (with_reducible first | exact HB.out | apply below_alloc | apply pw_below_drewN | apply below_drew1) | exact HB.out)) hb); clear HB; have HB := n0_; clear n0_; (try clear hb); (try clear hb2); (try clear hk); (try clear hi)) | ((with_reducible refine gate_callee (f := 17) rfl ?_); refine goesL_ (some 33) rfl rfl Try.func17 (by kernel_rfl) rfl #[.string a0, .int .i64 a1, .int .i64 a2] rfl (by (try simp only [List.map_toArray, List.map_cons, List.map_nil]); first | done | rfl | (simp only [List.length_drop, List.length_take]; rfl)) ?_; (with_reducible refine (reach_Can.calls kj3 a0 a1 a2 t336 _ A13.out).mono ?_); rintro e w44 ⟨rfl, hb⟩; refine ⟨_, rfl, ?_⟩; have n0_ := Aside0.mk (below_step (by repeat (first | (with_reducible first | exact HB.out | apply below_alloc | apply pw_below_drewN | apply below_drew1) | exact HB.out)) hb); clear HB; have HB := n0_; clear n0_; (try clear hb); (try clear hb2); (try clear hk); (try clear hi)) | ((with_reducible refine gate_callee (f := 17) rfl ?_); refine goesL_ (some 39) rfl rfl Try.func17 (by kernel_rfl) rfl #[.string t335, .int .i64 (wrap64 (89 - a1)), .int .i64 (wrap64 (89 - a2))] rfl (by (try simp only [List.map_toArray, List.map_cons, List.map_nil]); first | done | rfl | (simp only [List.length_drop, List.length_take]; rfl)) ?_; (with_reducible refine (reach_Can.calls kj3 t335 (wrap64 (89 - a1)) (wrap64 (89 - a2)) t337 _ A14.out).mono ?_); rintro e w45 ⟨rfl, hb⟩; refine ⟨_, rfl, ?_⟩; have n0_ := Aside0.mk (below_step (by repeat (first | (with_reducible first | exact HB.out | apply below_alloc | apply pw_below_drewN | apply below_drew1) | exact HB.out)) hb); clear HB; have HB := n0_; clear n0_; (try clear hb); (try clear hb2); (try clear hk); (try clear hi)))
          go_ret
          exact ⟨by first | rfl | (simp [errW_none, errW_some] <;> rfl) | (simp [*, errW_none, errW_some] <;> rfl), by repeat (first | (with_reducible first | exact HB.out | apply below_alloc | apply pw_below_drewN | apply below_drew1) | exact HB.out)⟩

/-- THE ONE PURE STATEMENT of riverbanklaw05_ReachTurn: yours. -/
def riverbanklaw05_ReachTurn.Pure : Prop := ∀ (a0 : ByteArray) (a1 : Int) (a2 : Int), a0.size ≤ 140737488351232 → (Lit.int .i64 a1).wf = true → (Lit.int .i64 a2).wf = true → ∃ k, riverbanklaw05_ReachTurn.f k a0 a1 a2 = some true
theorem riverbanklaw05_ReachTurn.walk (P : riverbanklaw05_ReachTurn.Pure) (a0 : ByteArray) (a1 : Int) (a2 : Int) (w : World) (w0 : a0.size ≤ 140737488351232) (w1 : (Lit.int .i64 a1).wf = true) (w2 : (Lit.int .i64 a2).wf = true) :
    Calls Try.prog 4 #[.string a0, .int .i64 a1, .int .i64 a2] w fun e w' => e = .returned (.bool true) ∧ Below w.heap.size w w' := by
  obtain ⟨k, h⟩ := P a0 a1 a2 w0 w1 w2
  refine (riverbanklaw05_ReachTurn.calls k a0 a1 a2 true w h).mono ?_
  rintro e w' ⟨rfl, hd⟩
  exact ⟨rfl, hd⟩

-- NOT PRINTED: function 5 (riverbanklaw05_ReachOwn)

/-! ### riverbanklaw05_ReachPawn: function 6 -/
mutual
def riverbanklaw05_ReachPawn.j0 : Nat → ByteArray → Int → Int → Bool → Option (Bool)
  | 0, _, _, _, _ => none
  | k + 1, x0, x1, x5, x19 => if x19 = true then ((riverbanklaw05_live.f).bind fun t365 => (some t365)) else ((reach_All.f x0 x1).bind fun t366 => (riverbanklaw05_ReachPawn.l0 k x1 x5 t366 0))
def riverbanklaw05_ReachPawn.l0 : Nat → Int → Int → List Int → Int → Option (Bool)
  | 0, _, _, _, _ => none
  | k + 1, x1, x5, x6, x7 => if x7 < (x6.length : Int) then (if 0 ≤ x7 then ((board_Rank.f (rd x6 x7)).bind fun t371 => ((board_Rank.f x1).bind fun t372 => ((board_Side.f x5).bind fun t373 => (if t373 = 1 then (riverbanklaw05_ReachPawn.j2 k x1 x5 x6 x7 (wrap64 (-(wrap64 (t371 - t372))))) else (riverbanklaw05_ReachPawn.j2 k x1 x5 x6 x7 (wrap64 (t371 - t372))))))) else (none)) else (if (x6.length : Int) ≤ 3 then ((riverbanklaw05_live.f).bind fun t369 => (some t369)) else (some false))
def riverbanklaw05_ReachPawn.j2 : Nat → Int → Int → List Int → Int → Int → Option (Bool)
  | 0, _, _, _, _, _ => none
  | k + 1, x1, x5, x6, x7, x8 => if x8 < 0 then (some false) else (if x8 > 1 then (some false) else (if x8 = 0 then ((board_Side.f x5).bind fun t374 => ((place_Over.f k x1 t374).bind fun t375 => (if t375 = true then (if x8 = 1 then (if 0 ≤ x7 then (if x7 < (x6.length : Int) then ((board_File.f (rd x6 x7)).bind fun t377 => ((board_File.f x1).bind fun t378 => (if t377 = t378 then (riverbanklaw05_ReachPawn.l0 k x1 x5 x6 (wrap64 (x7 + 1))) else (some false)))) else (none)) else (none)) else (riverbanklaw05_ReachPawn.l0 k x1 x5 x6 (wrap64 (x7 + 1)))) else (some false)))) else (if x8 = 1 then (if 0 ≤ x7 then (if x7 < (x6.length : Int) then ((board_File.f (rd x6 x7)).bind fun t380 => ((board_File.f x1).bind fun t381 => (if t380 = t381 then (riverbanklaw05_ReachPawn.l0 k x1 x5 x6 (wrap64 (x7 + 1))) else (some false)))) else (none)) else (none)) else (riverbanklaw05_ReachPawn.l0 k x1 x5 x6 (wrap64 (x7 + 1))))))
end
def riverbanklaw05_ReachPawn.f (k : Nat) (a0 : ByteArray) (a1 : Int) : Option (Bool) := (board_At.f a0 a1).bind fun t363 => (if (a0.size : Int) > 200 then (riverbanklaw05_ReachPawn.j0 k a0 a1 t363 true) else ((board_Kind.f t363).bind fun t364 => (riverbanklaw05_ReachPawn.j0 k a0 a1 t363 (t364 != 80))))
theorem riverbanklaw05_ReachPawn.mono_l : ∀ k, (∀ y0 y1 y2 y3, LeO (riverbanklaw05_ReachPawn.j0 k y0 y1 y2 y3) (riverbanklaw05_ReachPawn.j0 (k + 1) y0 y1 y2 y3)) ∧ (∀ y0 y1 y2 y3, LeO (riverbanklaw05_ReachPawn.l0 k y0 y1 y2 y3) (riverbanklaw05_ReachPawn.l0 (k + 1) y0 y1 y2 y3)) ∧ (∀ y0 y1 y2 y3 y4, LeO (riverbanklaw05_ReachPawn.j2 k y0 y1 y2 y3 y4) (riverbanklaw05_ReachPawn.j2 (k + 1) y0 y1 y2 y3 y4))
  | 0 => ⟨fun _ _ _ _ r h => by simp [riverbanklaw05_ReachPawn.j0] at h, fun _ _ _ _ r h => by simp [riverbanklaw05_ReachPawn.l0] at h, fun _ _ _ _ _ r h => by simp [riverbanklaw05_ReachPawn.j2] at h⟩
  | k + 1 => by
    obtain ⟨ih0, ih1, ih2⟩ := riverbanklaw05_ReachPawn.mono_l k
    refine ⟨?_, ?_, ?_⟩
    · intro y0 y1 y2 y3
      unfold riverbanklaw05_ReachPawn.j0
      repeat' first
      | (with_reducible exact ih0 _ _ _ _)
      | (with_reducible exact ih1 _ _ _ _)
      | (with_reducible exact ih2 _ _ _ _ _)
      | (with_reducible exact place_Over.mono _ _ _)
      | (with_reducible exact LeO.refl _)
      | (with_reducible exact LeO.none _)
      | (with_reducible refine LeO.ite ?_ ?_)
      | (with_reducible refine LeO.bind ?_ (fun _ => ?_))
      | exact ih0 _ _ _ _
      | exact ih1 _ _ _ _
      | exact ih2 _ _ _ _ _
      | exact place_Over.mono _ _ _
      | exact LeO.none _
      | refine LeO.ite ?_ ?_
      | refine LeO.bind ?_ (fun _ => ?_)
    · intro y0 y1 y2 y3
      unfold riverbanklaw05_ReachPawn.l0
      repeat' first
      | (with_reducible exact ih0 _ _ _ _)
      | (with_reducible exact ih1 _ _ _ _)
      | (with_reducible exact ih2 _ _ _ _ _)
      | (with_reducible exact place_Over.mono _ _ _)
      | (with_reducible exact LeO.refl _)
      | (with_reducible exact LeO.none _)
      | (with_reducible refine LeO.ite ?_ ?_)
      | (with_reducible refine LeO.bind ?_ (fun _ => ?_))
      | exact ih0 _ _ _ _
      | exact ih1 _ _ _ _
      | exact ih2 _ _ _ _ _
      | exact place_Over.mono _ _ _
      | exact LeO.none _
      | refine LeO.ite ?_ ?_
      | refine LeO.bind ?_ (fun _ => ?_)
    · intro y0 y1 y2 y3 y4
      unfold riverbanklaw05_ReachPawn.j2
      repeat' first
      | (with_reducible exact ih0 _ _ _ _)
      | (with_reducible exact ih1 _ _ _ _)
      | (with_reducible exact ih2 _ _ _ _ _)
      | (with_reducible exact place_Over.mono _ _ _)
      | (with_reducible exact LeO.refl _)
      | (with_reducible exact LeO.none _)
      | (with_reducible refine LeO.ite ?_ ?_)
      | (with_reducible refine LeO.bind ?_ (fun _ => ?_))
      | exact ih0 _ _ _ _
      | exact ih1 _ _ _ _
      | exact ih2 _ _ _ _ _
      | exact place_Over.mono _ _ _
      | exact LeO.none _
      | refine LeO.ite ?_ ?_
      | refine LeO.bind ?_ (fun _ => ?_)
theorem riverbanklaw05_ReachPawn.mono : ∀ a0 a1 k, LeO (riverbanklaw05_ReachPawn.f k a0 a1) (riverbanklaw05_ReachPawn.f (k + 1) a0 a1) := by
  intro a0 a1 k
  obtain ⟨ih0, ih1, ih2⟩ := riverbanklaw05_ReachPawn.mono_l k
  unfold riverbanklaw05_ReachPawn.f
  repeat' first
      | (with_reducible exact ih0 _ _ _ _)
      | (with_reducible exact ih1 _ _ _ _)
      | (with_reducible exact ih2 _ _ _ _ _)
      | (with_reducible exact place_Over.mono _ _ _)
      | (with_reducible exact LeO.refl _)
      | (with_reducible exact LeO.none _)
      | (with_reducible refine LeO.ite ?_ ?_)
      | (with_reducible refine LeO.bind ?_ (fun _ => ?_))
      | exact ih0 _ _ _ _
      | exact ih1 _ _ _ _
      | exact ih2 _ _ _ _ _
      | exact place_Over.mono _ _ _
      | exact LeO.none _
      | refine LeO.ite ?_ ?_
      | refine LeO.bind ?_ (fun _ => ?_)
set_option maxHeartbeats 8000000 in
set_option maxRecDepth 100000 in
theorem riverbanklaw05_ReachPawn.calls (k : Nat) (a0 : ByteArray) (a1 : Int) (r : Bool) (w : World) (h : riverbanklaw05_ReachPawn.f k a0 a1 = some r) :
    Calls Try.prog 6 #[.string a0, .int .i64 a1] w fun e w' => e = .returned (.bool r) ∧ Below w.heap.size w w' := by
  have HB := Aside0.mk (Below.refl w.heap.size w)
  have H : ((board_At.f a0 a1).bind fun t363 => (if (a0.size : Int) > 200 then (riverbanklaw05_ReachPawn.j0 k a0 a1 t363 true) else ((board_Kind.f t363).bind fun t364 => (riverbanklaw05_ReachPawn.j0 k a0 a1 t363 (t364 != 80))))) = some r := h
  clear h
  replace H := Option.bind_eq_some_iff.mp H
  obtain ⟨t363, A30, H⟩ := H
  replace H : (if (a0.size : Int) > 200 then (riverbanklaw05_ReachPawn.j0 k a0 a1 t363 true) else ((board_Kind.f t363).bind fun t364 => (riverbanklaw05_ReachPawn.j0 k a0 a1 t363 (t364 != 80)))) = some r := H
  have A3 := Aside0.mk A30
  clear A30
  have HC4 := Aside0.mk H
  clear H
  go_enter Try.func6, Try.ntmps6
  go_upto_region 2 with (first | ((with_reducible refine gate_callee (f := 23) rfl ?_); refine goesL_ (some 11) rfl rfl Try.func23 (by kernel_rfl) rfl #[.string a0, .int .i64 a1] rfl (by (try simp only [List.map_toArray, List.map_cons, List.map_nil]); first | done | rfl | (simp only [List.length_drop, List.length_take]; rfl)) ?_; (with_reducible refine (board_At.calls a0 a1 t363 _ A3.out).mono ?_); rintro e w5 ⟨rfl, hb⟩; refine ⟨_, rfl, ?_⟩; have n0_ := Aside0.mk (below_step (by repeat (first | (with_reducible first | exact HB.out | apply below_alloc | apply pw_below_drewN | apply below_drew1) | exact HB.out)) hb); clear HB; have HB := n0_; clear n0_; (try clear hb); (try clear hb2); (try clear hk); (try clear hi)))
  (try simp only [Act.put, List.setIfInBounds_toArray, List.set_cons_zero, List.set_cons_succ])
  go_cut [19] (fun v19 wc => ∃ (kq : Nat) (x19_3 : Bool), v19 = .bool x19_3 ∧ Aside0 (riverbanklaw05_ReachPawn.j0 kq a0 a1 t363 x19_3 = some r) ∧ Aside0 (kq ≤ k) ∧ Aside0 (Below w.heap.size w wc))
  case first =>
    have H := HC4.out
    clear HC4
    by_cases c6 : (a0.size : Int) > 200
    · rw [if_pos c6] at H
      have c6b0 : decide (200 < (a0.size : Int)) = true := decide_eq_true c6
      have c6b1 : decide (200 < a0.size) = true := decide_eq_true (by omega)
      clear c6
      (first | rw [c6b0] | (simp only [i64_w, i32_w]; rw [c6b0]) | skip)
      have H' := Aside0.mk H
      clear H
      go_wp2
      go_meet
      case rel => exact ⟨_, (true), (by first | rfl | (simp; done) | (simp [*]; done)), H', ⟨by first | omega | exact Nat.le_refl _⟩, ⟨by repeat (first | (with_reducible first | exact HB.out | apply below_alloc | apply pw_below_drewN | apply below_drew1) | exact HB.out)⟩⟩
    · rw [if_neg c6] at H
      have c6b0 : decide (200 < (a0.size : Int)) = false := decide_eq_false c6
      have c6b1 : decide (200 < a0.size) = false := decide_eq_false (by omega)
      clear c6
      (first | rw [c6b0] | (simp only [i64_w, i32_w]; rw [c6b0]) | skip)
      replace H := Option.bind_eq_some_iff.mp H
      obtain ⟨t364, A70, H⟩ := H
      replace H : (riverbanklaw05_ReachPawn.j0 k a0 a1 t363 (t364 != 80)) = some r := H
      have A7 := Aside0.mk A70
      clear A70
      have H' := Aside0.mk H
      clear H
      go_wp2_with (first | (go_at_call 24; (with_reducible refine (board_Kind.calls t363 t364 _ A7.out).mono ?_); rintro e w' ⟨rfl, ⟨nd, rfl⟩⟩))
      go_meet
      case rel => exact ⟨_, ((t364 != 80)), (by first | rfl | (simp; done) | (simp [*]; done)), H', ⟨by first | omega | exact Nat.le_refl _⟩, ⟨by repeat (first | (with_reducible first | exact HB.out | apply below_alloc | apply pw_below_drewN | apply below_drew1) | exact HB.out)⟩⟩
  case rest =>
    clear HC4
    try clear c2
    try clear p2
    try clear c6
    try clear c6b0
    try clear c6b1
    obtain ⟨kq, x19_3, rfl, HA, HJ3, HB⟩ := hcut
    cases kq with
    | zero => exact absurd HA.out (by simp [riverbanklaw05_ReachPawn.j0])
    | succ kj3 =>
      have H := HA.out
      clear HA
      simp only [riverbanklaw05_ReachPawn.j0] at H
      by_cases c8 : x19_3 = true
      · subst c8
        have H1 : ((riverbanklaw05_live.f).bind fun t365 => (some t365)) = some r := by rw [if_pos rfl] at H; exact H
        clear H
        have H := H1
        clear H1
        replace H := Option.bind_eq_some_iff.mp H
        obtain ⟨t365, A90, H⟩ := H
        replace H : (some t365) = some r := H
        have A9 := Aside0.mk A90
        clear A90
        obtain rfl := Option.some.inj H
        go_wp2_with (first | ((with_reducible refine gate_callee (f := 13) rfl ?_); refine goesL_ (some 20) rfl rfl Try.func13 (by kernel_rfl) rfl #[] rfl (by (try simp only [List.map_toArray, List.map_cons, List.map_nil]); first | done | rfl | (simp only [List.length_drop, List.length_take]; rfl)) ?_; (with_reducible refine (riverbanklaw05_live.calls  t365 _ A9.out).mono ?_); rintro e w10 ⟨rfl, hb⟩; refine ⟨_, rfl, ?_⟩; have n0_ := Aside0.mk (below_step (by repeat (first | (with_reducible first | exact HB.out | apply below_alloc | apply pw_below_drewN | apply below_drew1) | exact HB.out)) hb); clear HB; have HB := n0_; clear n0_; (try clear hb); (try clear hb2); (try clear hk); (try clear hi)))
        go_ret
        exact ⟨by first | rfl | (simp [errW_none, errW_some] <;> rfl) | (simp [*, errW_none, errW_some] <;> rfl), by repeat (first | (with_reducible first | exact HB.out | apply below_alloc | apply pw_below_drewN | apply below_drew1) | exact HB.out)⟩
      · replace c8 := Bool.eq_false_iff.mpr c8
        subst c8
        have H1 : ((reach_All.f a0 a1).bind fun t366 => (riverbanklaw05_ReachPawn.l0 kj3 a1 t363 t366 0)) = some r := by rw [if_neg (show ¬ (false = true) by decide)] at H; exact H
        clear H
        have H := H1
        clear H1
        replace H := Option.bind_eq_some_iff.mp H
        obtain ⟨t366, A110, H⟩ := H
        replace H : (riverbanklaw05_ReachPawn.l0 kj3 a1 t363 t366 0) = some r := H
        have A11 := Aside0.mk A110
        clear A110
        have H' := Aside0.mk H
        clear H
        go_wp2_with (first | ((with_reducible refine gate_callee (f := 15) rfl ?_); refine goesL_ (some 23) rfl rfl Try.func15 (by kernel_rfl) rfl #[.string a0, .int .i64 a1] rfl (by (try simp only [List.map_toArray, List.map_cons, List.map_nil]); first | done | rfl | (simp only [List.length_drop, List.length_take]; rfl)) ?_; (with_reducible refine (reach_All.calls a0 a1 t366 _ A11.out).mono ?_); rintro e w12 ⟨v367, rfl, ho0, hb⟩; refine ⟨_, rfl, ?_⟩; have n0_ := Aside0.mk (Kd.R_lower ho0 (below_size (by repeat (first | (with_reducible first | exact HB.out | apply below_alloc | apply pw_below_drewN | apply below_drew1) | exact HB.out)))); have n1_ := Aside0.mk (below_step (by repeat (first | (with_reducible first | exact HB.out | apply below_alloc | apply pw_below_drewN | apply below_drew1) | exact HB.out)) hb); clear HB; have HO368 := n0_; have HB := n1_; clear n0_ n1_; (try clear hb); (try clear hb2); (try clear hk); (try clear hi); (try clear ho0)))
        go_loopg [7] kj3 (fun kq v7 w' => ∃ (x7_2 : Int), v7 = .int .i64 x7_2 ∧ Aside0 (riverbanklaw05_ReachPawn.l0 kq a1 t363 t366 x7_2 = some r) ∧ Aside0 (kq ≤ kj3) ∧ Aside0 (Kd.R (Kd.int .i64) 3 w' w.heap.size (fun _ => True) v367 t366) ∧ Aside0 (Below w.heap.size w w'))
        case atStart => exact ⟨(0), (by first | rfl | (simp; done) | (simp [*]; done)), H', ⟨Nat.le_refl _⟩, ⟨by (with_reducible repeat (first | apply Kd.R_alloc | apply Kd.R_drewN | apply Kd.R_drew)); exact HO368.out⟩, ⟨by repeat (first | (with_reducible first | exact HB.out | apply below_alloc | apply pw_below_drewN | apply below_drew1) | exact HB.out)⟩⟩
        case round =>
          clear H'
          try clear c1
          try clear c2
          try clear p2
          try clear c6
          try clear c6b0
          try clear c6b1
          try clear c8
          try clear p2
          obtain ⟨x7_2, rfl, HA, HK2, HO_6, HB⟩ := hrel
          cases gk with
          | zero => exact absurd HA.out (by simp [riverbanklaw05_ReachPawn.l0])
          | succ k2 =>
            have H := HA.out
            clear HA
            simp only [riverbanklaw05_ReachPawn.l0] at H
            by_cases c13 : x7_2 < (t366.length : Int)
            · rw [if_pos c13] at H
              have c13b0 : decide (x7_2 < (t366.length : Int)) = true := decide_eq_true c13
              clear c13
              by_cases c14 : 0 ≤ x7_2
              · rw [if_pos c14] at H
                have c14b0 : decide (0 ≤ x7_2) = true := decide_eq_true c14
                clear c14
                replace H := Option.bind_eq_some_iff.mp H
                obtain ⟨t371, A150, H⟩ := H
                replace H : ((board_Rank.f a1).bind fun t372 => ((board_Side.f t363).bind fun t373 => (if t373 = 1 then (riverbanklaw05_ReachPawn.j2 k2 a1 t363 t366 x7_2 (wrap64 (-(wrap64 (t371 - t372))))) else (riverbanklaw05_ReachPawn.j2 k2 a1 t363 t366 x7_2 (wrap64 (t371 - t372)))))) = some r := H
                have A15 := Aside0.mk A150
                clear A150
                replace H := Option.bind_eq_some_iff.mp H
                obtain ⟨t372, A160, H⟩ := H
                replace H : ((board_Side.f t363).bind fun t373 => (if t373 = 1 then (riverbanklaw05_ReachPawn.j2 k2 a1 t363 t366 x7_2 (wrap64 (-(wrap64 (t371 - t372))))) else (riverbanklaw05_ReachPawn.j2 k2 a1 t363 t366 x7_2 (wrap64 (t371 - t372))))) = some r := H
                have A16 := Aside0.mk A160
                clear A160
                replace H := Option.bind_eq_some_iff.mp H
                obtain ⟨t373, A170, H⟩ := H
                replace H : (if t373 = 1 then (riverbanklaw05_ReachPawn.j2 k2 a1 t363 t366 x7_2 (wrap64 (-(wrap64 (t371 - t372))))) else (riverbanklaw05_ReachPawn.j2 k2 a1 t363 t366 x7_2 (wrap64 (t371 - t372)))) = some r := H
                have A17 := Aside0.mk A170
                clear A170
                have HC18 := Aside0.mk H
                clear H
                obtain ⟨Ao19, co19, eo19⟩ := Kd.R_slice HO_6.out
                subst eo19
                have p370 : 0 ≤ (x7_2 : Int) := of_decide_eq_true (by first | (with_reducible assumption) | assumption)
                have q370 : x7_2 < (t366.length : Int) := of_decide_eq_true (by first | (with_reducible assumption) | assumption)
                obtain ⟨ad370, e370, hx370_0⟩ := Kd.at_int (Kd.R_reads' HO_6.out).2.2 x7_2 p370 q370
                cases e370
                replace p370 := eq_true p370
                replace q370 := eq_true q370
                go_upto_if 40 with (first | ((with_reducible refine gate_callee (f := 25) rfl ?_); refine goesL_ (some 34) rfl rfl Try.func25 (by kernel_rfl) rfl #[.int .i64 (rd t366 x7_2)] rfl (by (try simp only [List.map_toArray, List.map_cons, List.map_nil]); first | done | rfl | (simp only [List.length_drop, List.length_take]; rfl)) ?_; (with_reducible refine (board_Rank.calls (rd t366 x7_2) t371 _ A15.out).mono ?_); rintro e w' ⟨rfl, ⟨nd, rfl⟩⟩; refine ⟨_, rfl, ?_⟩) | ((with_reducible refine gate_callee (f := 25) rfl ?_); refine goesL_ (some 36) rfl rfl Try.func25 (by kernel_rfl) rfl #[.int .i64 a1] rfl (by (try simp only [List.map_toArray, List.map_cons, List.map_nil]); first | done | rfl | (simp only [List.length_drop, List.length_take]; rfl)) ?_; (with_reducible refine (board_Rank.calls a1 t372 _ A16.out).mono ?_); rintro e w' ⟨rfl, ⟨nd, rfl⟩⟩; refine ⟨_, rfl, ?_⟩) | ((with_reducible refine gate_callee (f := 22) rfl ?_); refine goesL_ (some 39) rfl rfl Try.func22 (by kernel_rfl) rfl #[.int .u8 t363] rfl (by (try simp only [List.map_toArray, List.map_cons, List.map_nil]); first | done | rfl | (simp only [List.length_drop, List.length_take]; rfl)) ?_; (with_reducible refine (board_Side.calls t363 t373 _ A17.out).mono ?_); rintro e w' ⟨rfl, ⟨nd, rfl⟩⟩; refine ⟨_, rfl, ?_⟩))
                (try simp only [Act.put, List.setIfInBounds_toArray, List.set_cons_zero, List.set_cons_succ])
                go_cut [8] (fun v8 wc => ∃ (kq : Nat) (x8_17 : Int), v8 = .int .i64 x8_17 ∧ Aside0 (riverbanklaw05_ReachPawn.j2 kq a1 t363 t366 x7_2 x8_17 = some r) ∧ Aside0 (kq ≤ k2) ∧ Aside0 (Kd.R (Kd.int .i64) 3 wc w.heap.size (fun _ => True) (.slice (some ad370) t366.length co19) t366) ∧ Aside0 (Below w.heap.size w wc))
                case first =>
                  have H := HC18.out
                  clear HC18
                  by_cases c20 : t373 = 1
                  · rw [if_pos c20] at H
                    have c20b0 : (t373 == 1) = true := beq_iff_eq.mpr c20
                    have c20b1 : (t373 != 1) = false := bne_eq_false_iff_eq.mpr c20
                    clear c20
                    (first | rw [c20b0] | (simp only [i64_w, i32_w]; rw [c20b0]) | skip)
                    have H' := Aside0.mk H
                    clear H
                    go_wp2
                    go_meet
                    case rel => exact ⟨_, (wrap64 (-(wrap64 (t371 - t372)))), (by first | rfl | (simp; done) | (simp [*]; done)), H', ⟨by have := HJ3.out; have := HK2.out; first | omega | exact Nat.le_refl _⟩, ⟨by (with_reducible repeat (first | apply Kd.R_alloc | apply Kd.R_drewN | apply Kd.R_drew)); exact HO_6.out⟩, ⟨by repeat (first | (with_reducible first | exact HB.out | apply below_alloc | apply pw_below_drewN | apply below_drew1) | exact HB.out)⟩⟩
                  · rw [if_neg c20] at H
                    have c20b0 : (t373 == 1) = false := beq_eq_false_iff_ne.mpr c20
                    have c20b1 : (t373 != 1) = true := bne_iff_ne.mpr c20
                    (first | rw [c20b0] | (simp only [i64_w, i32_w]; rw [c20b0]) | skip)
                    have H' := Aside0.mk H
                    clear H
                    go_wp2
                    go_meet
                    case rel => exact ⟨_, (wrap64 (t371 - t372)), (by first | rfl | (simp; done) | (simp [*]; done)), H', ⟨by have := HJ3.out; have := HK2.out; first | omega | exact Nat.le_refl _⟩, ⟨by (with_reducible repeat (first | apply Kd.R_alloc | apply Kd.R_drewN | apply Kd.R_drew)); exact HO_6.out⟩, ⟨by repeat (first | (with_reducible first | exact HB.out | apply below_alloc | apply pw_below_drewN | apply below_drew1) | exact HB.out)⟩⟩
                case rest =>
                  clear HC18
                  try clear c1
                  try clear c2
                  try clear p2
                  try clear p3
                  try clear q3
                  try clear hx3
                  try clear c6
                  try clear c6b0
                  try clear c6b1
                  try clear p6
                  try clear c8
                  try clear c13
                  try clear c13b0
                  try clear c14
                  try clear c14b0
                  try clear c15
                  try clear c20
                  try clear c20b0
                  try clear c20b1
                  try clear hx370_0
                  try clear p2
                  try clear p370
                  try clear q370
                  obtain ⟨kq, x8_17, rfl, HA, HJ17, HO_6, HB⟩ := hcut
                  cases kq with
                  | zero => exact absurd HA.out (by simp [riverbanklaw05_ReachPawn.j2])
                  | succ kj17 =>
                    have H := HA.out
                    clear HA
                    simp only [riverbanklaw05_ReachPawn.j2] at H
                    by_cases c21 : x8_17 < 0
                    · rw [if_pos c21] at H
                      have c21b0 : decide (x8_17 < 0) = true := decide_eq_true c21
                      clear c21
                      obtain rfl := Option.some.inj H
                      go_wp2
                      go_ret
                      exact ⟨by first | rfl | (simp [errW_none, errW_some] <;> rfl) | (simp [*, errW_none, errW_some] <;> rfl), by repeat (first | (with_reducible first | exact HB.out | apply below_alloc | apply pw_below_drewN | apply below_drew1) | exact HB.out)⟩
                    · rw [if_neg c21] at H
                      have c21b0 : decide (x8_17 < 0) = false := decide_eq_false c21
                      clear c21
                      by_cases c22 : x8_17 > 1
                      · rw [if_pos c22] at H
                        have c22b0 : decide (1 < x8_17) = true := decide_eq_true c22
                        clear c22
                        obtain rfl := Option.some.inj H
                        go_wp2
                        go_ret
                        exact ⟨by first | rfl | (simp [errW_none, errW_some] <;> rfl) | (simp [*, errW_none, errW_some] <;> rfl), by repeat (first | (with_reducible first | exact HB.out | apply below_alloc | apply pw_below_drewN | apply below_drew1) | exact HB.out)⟩
                      · rw [if_neg c22] at H
                        have c22b0 : decide (1 < x8_17) = false := decide_eq_false c22
                        clear c22
                        by_cases c23 : x8_17 = 0
                        · rw [if_pos c23] at H
                          have c23b0 : (x8_17 == 0) = true := beq_iff_eq.mpr c23
                          have c23b1 : (x8_17 != 0) = false := bne_eq_false_iff_eq.mpr c23
                          clear c23
                          replace H := Option.bind_eq_some_iff.mp H
                          obtain ⟨t374, A240, H⟩ := H
                          replace H : ((place_Over.f kj17 a1 t374).bind fun t375 => (if t375 = true then (if x8_17 = 1 then (if 0 ≤ x7_2 then (if x7_2 < (t366.length : Int) then ((board_File.f (rd t366 x7_2)).bind fun t377 => ((board_File.f a1).bind fun t378 => (if t377 = t378 then (riverbanklaw05_ReachPawn.l0 kj17 a1 t363 t366 (wrap64 (x7_2 + 1))) else (some false)))) else (none)) else (none)) else (riverbanklaw05_ReachPawn.l0 kj17 a1 t363 t366 (wrap64 (x7_2 + 1)))) else (some false))) = some r := H
                          have A24 := Aside0.mk A240
                          clear A240
                          replace H := Option.bind_eq_some_iff.mp H
                          obtain ⟨t375, A250, H⟩ := H
                          replace H : (if t375 = true then (if x8_17 = 1 then (if 0 ≤ x7_2 then (if x7_2 < (t366.length : Int) then ((board_File.f (rd t366 x7_2)).bind fun t377 => ((board_File.f a1).bind fun t378 => (if t377 = t378 then (riverbanklaw05_ReachPawn.l0 kj17 a1 t363 t366 (wrap64 (x7_2 + 1))) else (some false)))) else (none)) else (none)) else (riverbanklaw05_ReachPawn.l0 kj17 a1 t363 t366 (wrap64 (x7_2 + 1)))) else (some false)) = some r := H
                          have A25 := Aside0.mk A250
                          clear A250
                          by_cases c26 : t375 = true
                          · subst c26
                            have H1 : (if x8_17 = 1 then (if 0 ≤ x7_2 then (if x7_2 < (t366.length : Int) then ((board_File.f (rd t366 x7_2)).bind fun t377 => ((board_File.f a1).bind fun t378 => (if t377 = t378 then (riverbanklaw05_ReachPawn.l0 kj17 a1 t363 t366 (wrap64 (x7_2 + 1))) else (some false)))) else (none)) else (none)) else (riverbanklaw05_ReachPawn.l0 kj17 a1 t363 t366 (wrap64 (x7_2 + 1)))) = some r := by rw [if_pos rfl] at H; exact H
                            clear H
                            have H := H1
                            clear H1
                            by_cases c27 : x8_17 = 1
                            · rw [if_pos c27] at H
                              have c27b0 : (x8_17 == 1) = true := beq_iff_eq.mpr c27
                              have c27b1 : (x8_17 != 1) = false := bne_eq_false_iff_eq.mpr c27
                              clear c27
                              by_cases c28 : 0 ≤ x7_2
                              · rw [if_pos c28] at H
                                have c28b0 : decide (0 ≤ x7_2) = true := decide_eq_true c28
                                clear c28
                                by_cases c29 : x7_2 < (t366.length : Int)
                                · rw [if_pos c29] at H
                                  have c29b0 : decide (x7_2 < (t366.length : Int)) = true := decide_eq_true c29
                                  clear c29
                                  replace H := Option.bind_eq_some_iff.mp H
                                  obtain ⟨t377, A300, H⟩ := H
                                  replace H : ((board_File.f a1).bind fun t378 => (if t377 = t378 then (riverbanklaw05_ReachPawn.l0 kj17 a1 t363 t366 (wrap64 (x7_2 + 1))) else (some false))) = some r := H
                                  have A30 := Aside0.mk A300
                                  clear A300
                                  replace H := Option.bind_eq_some_iff.mp H
                                  obtain ⟨t378, A310, H⟩ := H
                                  replace H : (if t377 = t378 then (riverbanklaw05_ReachPawn.l0 kj17 a1 t363 t366 (wrap64 (x7_2 + 1))) else (some false)) = some r := H
                                  have A31 := Aside0.mk A310
                                  clear A310
                                  by_cases c32 : t377 = t378
                                  · rw [if_pos c32] at H
                                    have c32b0 : (t377 == t378) = true := beq_iff_eq.mpr c32
                                    have c32b1 : (t377 != t378) = false := bne_eq_false_iff_eq.mpr c32
                                    clear c32
                                    have H' := Aside0.mk H
                                    clear H
                                    go_wp2_with (first | (go_at_call 22; (with_reducible refine (board_Side.calls t363 t374 _ A24.out).mono ?_); rintro e w' ⟨rfl, ⟨nd, rfl⟩⟩) | (go_at_call 26; (with_reducible refine (place_Over.calls kj17 a1 t374 true _ A25.out).mono ?_); rintro e w33 ⟨rfl, hb⟩; have n0_ := Aside0.mk (Kd.R_below (by (with_reducible repeat (first | apply Kd.R_alloc | apply Kd.R_drewN | apply Kd.R_drew)); exact HO_6.out) hb); have n1_ := Aside0.mk (below_step (by repeat (first | (with_reducible first | exact HB.out | apply below_alloc | apply pw_below_drewN | apply below_drew1) | exact HB.out)) hb); clear HO_6; clear HB; have HO_6 := n0_; have HB := n1_; clear n0_ n1_; (try clear hb); (try clear hb2); (try clear hk); (try clear hi); have p376 : 0 ≤ (x7_2 : Int) := of_decide_eq_true (by first | (with_reducible assumption) | assumption); have q376 : x7_2 < (t366.length : Int) := of_decide_eq_true (by first | (with_reducible assumption) | assumption); obtain ⟨ad376, e376, hx376_0⟩ := Kd.at_int (Kd.R_reads' HO_6.out).2.2 x7_2 p376 q376; obtain rfl : ad370 = ad376 := (by injection e376); replace p376 := eq_true p376; replace q376 := eq_true q376) | (go_at_call 27; (with_reducible refine (board_File.calls (rd t366 x7_2) t377 _ A30.out).mono ?_); rintro e w' ⟨rfl, ⟨nd, rfl⟩⟩) | (go_at_call 27; (with_reducible refine (board_File.calls a1 t378 _ A31.out).mono ?_); rintro e w' ⟨rfl, ⟨nd, rfl⟩⟩))
                                    go_roundg kj17
                                    case measure => have := HJ3.out; have := HK2.out; have := HJ17.out; omega
                                    case rel => exact ⟨(wrap64 (x7_2 + 1)), (by first | rfl | (simp; done) | (simp [*]; done)), H', ⟨by have := HJ3.out; have := HK2.out; have := HJ17.out; omega⟩, ⟨by (with_reducible repeat (first | apply Kd.R_alloc | apply Kd.R_drewN | apply Kd.R_drew)); exact HO_6.out⟩, ⟨by repeat (first | (with_reducible first | exact HB.out | apply below_alloc | apply pw_below_drewN | apply below_drew1) | exact HB.out)⟩⟩
                                  · rw [if_neg c32] at H
                                    have c32b0 : (t377 == t378) = false := beq_eq_false_iff_ne.mpr c32
                                    have c32b1 : (t377 != t378) = true := bne_iff_ne.mpr c32
                                    obtain rfl := Option.some.inj H
                                    go_wp2_with (first | (go_at_call 22; (with_reducible refine (board_Side.calls t363 t374 _ A24.out).mono ?_); rintro e w' ⟨rfl, ⟨nd, rfl⟩⟩) | (go_at_call 26; (with_reducible refine (place_Over.calls kj17 a1 t374 true _ A25.out).mono ?_); rintro e w34 ⟨rfl, hb⟩; have n0_ := Aside0.mk (Kd.R_below (by (with_reducible repeat (first | apply Kd.R_alloc | apply Kd.R_drewN | apply Kd.R_drew)); exact HO_6.out) hb); have n1_ := Aside0.mk (below_step (by repeat (first | (with_reducible first | exact HB.out | apply below_alloc | apply pw_below_drewN | apply below_drew1) | exact HB.out)) hb); clear HO_6; clear HB; have HO_6 := n0_; have HB := n1_; clear n0_ n1_; (try clear hb); (try clear hb2); (try clear hk); (try clear hi); have p376 : 0 ≤ (x7_2 : Int) := of_decide_eq_true (by first | (with_reducible assumption) | assumption); have q376 : x7_2 < (t366.length : Int) := of_decide_eq_true (by first | (with_reducible assumption) | assumption); obtain ⟨ad376, e376, hx376_0⟩ := Kd.at_int (Kd.R_reads' HO_6.out).2.2 x7_2 p376 q376; obtain rfl : ad370 = ad376 := (by injection e376); replace p376 := eq_true p376; replace q376 := eq_true q376) | (go_at_call 27; (with_reducible refine (board_File.calls (rd t366 x7_2) t377 _ A30.out).mono ?_); rintro e w' ⟨rfl, ⟨nd, rfl⟩⟩) | (go_at_call 27; (with_reducible refine (board_File.calls a1 t378 _ A31.out).mono ?_); rintro e w' ⟨rfl, ⟨nd, rfl⟩⟩))
                                    go_ret
                                    exact ⟨by first | rfl | (simp [errW_none, errW_some] <;> rfl) | (simp [*, errW_none, errW_some] <;> rfl), by repeat (first | (with_reducible first | exact HB.out | apply below_alloc | apply pw_below_drewN | apply below_drew1) | exact HB.out)⟩
                                · rw [if_neg c29] at H
                                  exact absurd H (by simp)
                              · rw [if_neg c28] at H
                                exact absurd H (by simp)
                            · rw [if_neg c27] at H
                              have c27b0 : (x8_17 == 1) = false := beq_eq_false_iff_ne.mpr c27
                              have c27b1 : (x8_17 != 1) = true := bne_iff_ne.mpr c27
                              have H' := Aside0.mk H
                              clear H
                              go_wp2_with (first | (go_at_call 22; (with_reducible refine (board_Side.calls t363 t374 _ A24.out).mono ?_); rintro e w' ⟨rfl, ⟨nd, rfl⟩⟩) | (go_at_call 26; (with_reducible refine (place_Over.calls kj17 a1 t374 true _ A25.out).mono ?_); rintro e w35 ⟨rfl, hb⟩; have n0_ := Aside0.mk (Kd.R_below (by (with_reducible repeat (first | apply Kd.R_alloc | apply Kd.R_drewN | apply Kd.R_drew)); exact HO_6.out) hb); have n1_ := Aside0.mk (below_step (by repeat (first | (with_reducible first | exact HB.out | apply below_alloc | apply pw_below_drewN | apply below_drew1) | exact HB.out)) hb); clear HO_6; clear HB; have HO_6 := n0_; have HB := n1_; clear n0_ n1_; (try clear hb); (try clear hb2); (try clear hk); (try clear hi)))
                              go_roundg kj17
                              case measure => have := HJ3.out; have := HK2.out; have := HJ17.out; omega
                              case rel => exact ⟨(wrap64 (x7_2 + 1)), (by first | rfl | (simp; done) | (simp [*]; done)), H', ⟨by have := HJ3.out; have := HK2.out; have := HJ17.out; omega⟩, ⟨by (with_reducible repeat (first | apply Kd.R_alloc | apply Kd.R_drewN | apply Kd.R_drew)); exact HO_6.out⟩, ⟨by repeat (first | (with_reducible first | exact HB.out | apply below_alloc | apply pw_below_drewN | apply below_drew1) | exact HB.out)⟩⟩
                          · replace c26 := Bool.eq_false_iff.mpr c26
                            subst c26
                            have H1 : (some false) = some r := by rw [if_neg (show ¬ (false = true) by decide)] at H; exact H
                            clear H
                            have H := H1
                            clear H1
                            obtain rfl := Option.some.inj H
                            go_wp2_with (first | (go_at_call 22; (with_reducible refine (board_Side.calls t363 t374 _ A24.out).mono ?_); rintro e w' ⟨rfl, ⟨nd, rfl⟩⟩) | (go_at_call 26; (with_reducible refine (place_Over.calls kj17 a1 t374 false _ A25.out).mono ?_); rintro e w36 ⟨rfl, hb⟩; have n0_ := Aside0.mk (Kd.R_below (by (with_reducible repeat (first | apply Kd.R_alloc | apply Kd.R_drewN | apply Kd.R_drew)); exact HO_6.out) hb); have n1_ := Aside0.mk (below_step (by repeat (first | (with_reducible first | exact HB.out | apply below_alloc | apply pw_below_drewN | apply below_drew1) | exact HB.out)) hb); clear HO_6; clear HB; have HO_6 := n0_; have HB := n1_; clear n0_ n1_; (try clear hb); (try clear hb2); (try clear hk); (try clear hi)))
                            go_ret
                            exact ⟨by first | rfl | (simp [errW_none, errW_some] <;> rfl) | (simp [*, errW_none, errW_some] <;> rfl), by repeat (first | (with_reducible first | exact HB.out | apply below_alloc | apply pw_below_drewN | apply below_drew1) | exact HB.out)⟩
                        · rw [if_neg c23] at H
                          have c23b0 : (x8_17 == 0) = false := beq_eq_false_iff_ne.mpr c23
                          have c23b1 : (x8_17 != 0) = true := bne_iff_ne.mpr c23
                          by_cases c37 : x8_17 = 1
                          · rw [if_pos c37] at H
                            have c37b0 : (x8_17 == 1) = true := beq_iff_eq.mpr c37
                            have c37b1 : (x8_17 != 1) = false := bne_eq_false_iff_eq.mpr c37
                            clear c37
                            by_cases c38 : 0 ≤ x7_2
                            · rw [if_pos c38] at H
                              have c38b0 : decide (0 ≤ x7_2) = true := decide_eq_true c38
                              clear c38
                              by_cases c39 : x7_2 < (t366.length : Int)
                              · rw [if_pos c39] at H
                                have c39b0 : decide (x7_2 < (t366.length : Int)) = true := decide_eq_true c39
                                clear c39
                                replace H := Option.bind_eq_some_iff.mp H
                                obtain ⟨t380, A400, H⟩ := H
                                replace H : ((board_File.f a1).bind fun t381 => (if t380 = t381 then (riverbanklaw05_ReachPawn.l0 kj17 a1 t363 t366 (wrap64 (x7_2 + 1))) else (some false))) = some r := H
                                have A40 := Aside0.mk A400
                                clear A400
                                replace H := Option.bind_eq_some_iff.mp H
                                obtain ⟨t381, A410, H⟩ := H
                                replace H : (if t380 = t381 then (riverbanklaw05_ReachPawn.l0 kj17 a1 t363 t366 (wrap64 (x7_2 + 1))) else (some false)) = some r := H
                                have A41 := Aside0.mk A410
                                clear A410
                                by_cases c42 : t380 = t381
                                · rw [if_pos c42] at H
                                  have c42b0 : (t380 == t381) = true := beq_iff_eq.mpr c42
                                  have c42b1 : (t380 != t381) = false := bne_eq_false_iff_eq.mpr c42
                                  clear c42
                                  have H' := Aside0.mk H
                                  clear H
                                  have p379 : 0 ≤ (x7_2 : Int) := of_decide_eq_true (by first | (with_reducible assumption) | assumption)
                                  have q379 : x7_2 < (t366.length : Int) := of_decide_eq_true (by first | (with_reducible assumption) | assumption)
                                  obtain ⟨ad379, e379, hx379_0⟩ := Kd.at_int (Kd.R_reads' HO_6.out).2.2 x7_2 p379 q379
                                  obtain rfl : ad370 = ad379 := (by injection e379)
                                  replace p379 := eq_true p379
                                  replace q379 := eq_true q379
                                  go_wp2_with (first | (go_at_call 27; (with_reducible refine (board_File.calls (rd t366 x7_2) t380 _ A40.out).mono ?_); rintro e w' ⟨rfl, ⟨nd, rfl⟩⟩) | (go_at_call 27; (with_reducible refine (board_File.calls a1 t381 _ A41.out).mono ?_); rintro e w' ⟨rfl, ⟨nd, rfl⟩⟩))
                                  go_roundg kj17
                                  case measure => have := HJ3.out; have := HK2.out; have := HJ17.out; omega
                                  case rel => exact ⟨(wrap64 (x7_2 + 1)), (by first | rfl | (simp; done) | (simp [*]; done)), H', ⟨by have := HJ3.out; have := HK2.out; have := HJ17.out; omega⟩, ⟨by (with_reducible repeat (first | apply Kd.R_alloc | apply Kd.R_drewN | apply Kd.R_drew)); exact HO_6.out⟩, ⟨by repeat (first | (with_reducible first | exact HB.out | apply below_alloc | apply pw_below_drewN | apply below_drew1) | exact HB.out)⟩⟩
                                · rw [if_neg c42] at H
                                  have c42b0 : (t380 == t381) = false := beq_eq_false_iff_ne.mpr c42
                                  have c42b1 : (t380 != t381) = true := bne_iff_ne.mpr c42
                                  obtain rfl := Option.some.inj H
                                  have p379 : 0 ≤ (x7_2 : Int) := of_decide_eq_true (by first | (with_reducible assumption) | assumption)
                                  have q379 : x7_2 < (t366.length : Int) := of_decide_eq_true (by first | (with_reducible assumption) | assumption)
                                  obtain ⟨ad379, e379, hx379_0⟩ := Kd.at_int (Kd.R_reads' HO_6.out).2.2 x7_2 p379 q379
                                  obtain rfl : ad370 = ad379 := (by injection e379)
                                  replace p379 := eq_true p379
                                  replace q379 := eq_true q379
                                  go_wp2_with (first | (go_at_call 27; (with_reducible refine (board_File.calls (rd t366 x7_2) t380 _ A40.out).mono ?_); rintro e w' ⟨rfl, ⟨nd, rfl⟩⟩) | (go_at_call 27; (with_reducible refine (board_File.calls a1 t381 _ A41.out).mono ?_); rintro e w' ⟨rfl, ⟨nd, rfl⟩⟩))
                                  go_ret
                                  exact ⟨by first | rfl | (simp [errW_none, errW_some] <;> rfl) | (simp [*, errW_none, errW_some] <;> rfl), by repeat (first | (with_reducible first | exact HB.out | apply below_alloc | apply pw_below_drewN | apply below_drew1) | exact HB.out)⟩
                              · rw [if_neg c39] at H
                                exact absurd H (by simp)
                            · rw [if_neg c38] at H
                              exact absurd H (by simp)
                          · rw [if_neg c37] at H
                            have c37b0 : (x8_17 == 1) = false := beq_eq_false_iff_ne.mpr c37
                            have c37b1 : (x8_17 != 1) = true := bne_iff_ne.mpr c37
                            have H' := Aside0.mk H
                            clear H
                            go_wp2
                            go_roundg kj17
                            case measure => have := HJ3.out; have := HK2.out; have := HJ17.out; omega
                            case rel => exact ⟨(wrap64 (x7_2 + 1)), (by first | rfl | (simp; done) | (simp [*]; done)), H', ⟨by have := HJ3.out; have := HK2.out; have := HJ17.out; omega⟩, ⟨by (with_reducible repeat (first | apply Kd.R_alloc | apply Kd.R_drewN | apply Kd.R_drew)); exact HO_6.out⟩, ⟨by repeat (first | (with_reducible first | exact HB.out | apply below_alloc | apply pw_below_drewN | apply below_drew1) | exact HB.out)⟩⟩
              · rw [if_neg c14] at H
                exact absurd H (by simp)
            · rw [if_neg c13] at H
              have c13b0 : decide (x7_2 < (t366.length : Int)) = false := decide_eq_false c13
              clear c13
              by_cases c43 : (t366.length : Int) ≤ 3
              · rw [if_pos c43] at H
                have c43b0 : decide ((t366.length : Int) ≤ 3) = true := decide_eq_true c43
                have c43b1 : decide (t366.length ≤ 3) = true := decide_eq_true (by omega)
                clear c43
                replace H := Option.bind_eq_some_iff.mp H
                obtain ⟨t369, A440, H⟩ := H
                replace H : (some t369) = some r := H
                have A44 := Aside0.mk A440
                clear A440
                obtain rfl := Option.some.inj H
                obtain ⟨Ao45, co45, eo45⟩ := Kd.R_slice HO_6.out
                subst eo45
                go_wp2_with (first | (go_at_call 13; (with_reducible refine (riverbanklaw05_live.calls  t369 _ A44.out).mono ?_); rintro e w46 ⟨rfl, hb⟩; have n0_ := Aside0.mk (Kd.R_below (by (with_reducible repeat (first | apply Kd.R_alloc | apply Kd.R_drewN | apply Kd.R_drew)); exact HO_6.out) hb); have n1_ := Aside0.mk (below_step (by repeat (first | (with_reducible first | exact HB.out | apply below_alloc | apply pw_below_drewN | apply below_drew1) | exact HB.out)) hb); clear HO_6; clear HB; have HO_6 := n0_; have HB := n1_; clear n0_ n1_; (try clear hb); (try clear hb2); (try clear hk); (try clear hi)))
                go_ret
                exact ⟨by first | rfl | (simp [errW_none, errW_some] <;> rfl) | (simp [*, errW_none, errW_some] <;> rfl), by repeat (first | (with_reducible first | exact HB.out | apply below_alloc | apply pw_below_drewN | apply below_drew1) | exact HB.out)⟩
              · rw [if_neg c43] at H
                have c43b0 : decide ((t366.length : Int) ≤ 3) = false := decide_eq_false c43
                have c43b1 : decide (t366.length ≤ 3) = false := decide_eq_false (by omega)
                clear c43
                obtain rfl := Option.some.inj H
                obtain ⟨Ao47, co47, eo47⟩ := Kd.R_slice HO_6.out
                subst eo47
                go_wp2
                go_ret
                exact ⟨by first | rfl | (simp [errW_none, errW_some] <;> rfl) | (simp [*, errW_none, errW_some] <;> rfl), by repeat (first | (with_reducible first | exact HB.out | apply below_alloc | apply pw_below_drewN | apply below_drew1) | exact HB.out)⟩

/-- THE ONE PURE STATEMENT of riverbanklaw05_ReachPawn: yours. -/
def riverbanklaw05_ReachPawn.Pure : Prop := ∀ (a0 : ByteArray) (a1 : Int), a0.size ≤ 140737488351232 → (Lit.int .i64 a1).wf = true → ∃ k, riverbanklaw05_ReachPawn.f k a0 a1 = some true
theorem riverbanklaw05_ReachPawn.walk (P : riverbanklaw05_ReachPawn.Pure) (a0 : ByteArray) (a1 : Int) (w : World) (w0 : a0.size ≤ 140737488351232) (w1 : (Lit.int .i64 a1).wf = true) :
    Calls Try.prog 6 #[.string a0, .int .i64 a1] w fun e w' => e = .returned (.bool true) ∧ Below w.heap.size w w' := by
  obtain ⟨k, h⟩ := P a0 a1 w0 w1
  refine (riverbanklaw05_ReachPawn.calls k a0 a1 true w h).mono ?_
  rintro e w' ⟨rfl, hd⟩
  exact ⟨rfl, hd⟩

end Go.Proofs.Ytcanbidenhcohaa.P

/- ReachPawn: for every text and every square a with a pawn on it: each square that All lists is one rank ahead on the same file, or beside it once it is over the water; and there are at most three. No condition of ours. -/
namespace Go.Proofs.Ytcanbidenhcohaa.Pure
open Go.RowKit Go.Proofs.Ytcanbidenhcohaa.P Go.Proofs.YtcanbidenhcohaaW.PrintWords Go.Proofs.YtcanbidenhcohaaW.PrintLast
open Sp
set_option linter.unusedVariables false
theorem pawn_l0 (a : Nat) (ha : a < 90) (x : Nat) (hx : x < 256) (sd : Fin 2) (hsd : sideN x = ((sd.1 : Nat) : Int)) (L : List Nat) (hL : ∀ t ∈ L, t < 90 ∧ pawnN ((sd.1 : Nat) : Int) a t = true) (hlen : L.length ≤ 3) (m : Nat) :
    ∀ (i k : Nat), i + m = L.length → 2 * m + 10 ≤ k → riverbanklaw05_ReachPawn.l0 k (a : Int) (x : Int) (ints L) (i : Int) = some true := by
  have hil : (ints L).length = L.length := by simp [ints]
  induction m with
  | zero =>
    intro i k hi hk
    obtain ⟨k, rfl⟩ : ∃ m, k = m + 1 := ⟨k - 1, by omega⟩
    simp only [riverbanklaw05_ReachPawn.l0]
    rw [hil, if_neg (by omega), if_pos (by omega)]
    rfl
  | succ m ih =>
    intro i k hi hk
    obtain ⟨k, rfl⟩ : ∃ m, k = m + 2 := ⟨k - 2, by omega⟩
    have hlt : i < L.length := by omega
    have e1 : rd (ints L) (i : Int) = ((L[i] : Nat) : Int) := by simp [rd, ints, hlt]
    obtain ⟨t9, tp⟩ := hL _ (List.getElem_mem hlt)
    have hg := pawn_ahead sd ⟨a, ha⟩ ⟨L[i], t9⟩ tp
    simp only at hg
    have iH := ih (i + 1) k (by omega) (by omega)
    have hw : wrap64 ((i : Int) + 1) = ((i + 1 : Nat) : Int) := by rw [P.wrap_small _ (by omega) (by omega)]; omega
    generalize L[i] = t at e1 t9 tp hg
    simp only [riverbanklaw05_ReachPawn.l0]
    rw [hil, if_pos (by omega), if_pos (by omega), e1, rank_f t t9, rank_f a ha, side_f x hx]
    simp only [Option.bind_some]
    rw [hsd]
    have hr1 : t / 9 ≤ 9 := by omega
    have hr2 : a / 9 ≤ 9 := by omega
    have w1 : wrap64 (((t / 9 : Nat) : Int) - ((a / 9 : Nat) : Int)) = ((t / 9 : Nat) : Int) - ((a / 9 : Nat) : Int) := P.wrap_small _ (by omega) (by omega)
    rw [w1]
    have w2 : wrap64 (-(((t / 9 : Nat) : Int) - ((a / 9 : Nat) : Int))) = -(((t / 9 : Nat) : Int) - ((a / 9 : Nat) : Int)) := P.wrap_small _ (by omega) (by omega)
    rw [w2]
    have j2 : ∀ f : Int, (f = 0 ∧ overN a ((sd.1 : Nat) : Int) = true) ∨ (f = 1 ∧ t % 9 = a % 9) → riverbanklaw05_ReachPawn.j2 (k + 1) (a : Int) (x : Int) (ints L) (i : Int) f = some true := by
      intro f hf
      simp only [riverbanklaw05_ReachPawn.j2]
      rw [if_neg (by omega), if_neg (by omega), side_f x hx, hil, hw, e1, file_f t t9, file_f a ha]
      simp only [Option.bind_some]
      rw [hsd]
      have ho : place_Over.f k (a : Int) ((sd.1 : Nat) : Int) = some (overN a ((sd.1 : Nat) : Int)) := at_rounds (place_Over.mono _ _) (by omega) (over_all sd ⟨a, ha⟩)
      rcases hf with ⟨rfl, hov⟩ | ⟨rfl, hfl⟩
      · rw [if_pos rfl, ho]
        simp only [Option.bind_some]
        rw [hov, if_pos rfl, if_neg (by omega)]
        exact iH
      · rw [if_neg (by omega), if_pos rfl, if_pos (by omega), if_pos (by omega), if_pos (by omega)]
        exact iH
    have hs2 := sd.2
    by_cases q : ((sd.1 : Nat) : Int) = 1
    · rw [if_pos q]
      rw [if_pos (show sd.1 = 1 by omega)] at hg
      apply j2
      rcases hg with ⟨g1, g2⟩ | ⟨g1, g2⟩
      · exact .inr ⟨by omega, g2⟩
      · exact .inl ⟨by omega, g2⟩
    · rw [if_neg q]
      rw [if_neg (show ¬ sd.1 = 1 by omega)] at hg
      apply j2
      rcases hg with ⟨g1, g2⟩ | ⟨g1, g2⟩
      · exact .inr ⟨by omega, g2⟩
      · exact .inl ⟨by omega, g2⟩
theorem pawn_side : ∀ x : Fin 256, kindN x.1 = 80 → sideN x.1 = 0 ∨ sideN x.1 = 1 := by decide +kernel
theorem ReachPawn : riverbanklaw05_ReachPawn.Pure := by
  intro s a _ _
  refine ⟨302, ?_⟩
  have hlive : ∀ k x, riverbanklaw05_ReachPawn.j0 (k + 1) s a x true = some true := by intro k x; simp only [riverbanklaw05_ReachPawn.j0]; rw [if_pos trivial]; rfl
  unfold riverbanklaw05_ReachPawn.f
  rw [at_f]
  simp only [Option.bind_some]
  by_cases h : (s.size : Int) > 200
  · rw [if_pos h]; exact hlive 301 _
  rw [if_neg h]
  by_cases hc : isBoard s = true ∧ 0 ≤ a ∧ a < 90
  case neg =>
    rw [if_neg hc, show (46 : Int) = ((46 : Nat) : Int) from rfl, kind_f 46 (by omega)]
    exact hlive 301 ((46 : Nat) : Int)
  rw [if_pos hc]
  obtain ⟨hs, a0, a9⟩ := hc
  obtain ⟨n, rfl⟩ : ∃ x : Nat, a = (x : Int) := ⟨a.toNat, by omega⟩
  have hn : n < 90 := by omega
  rw [Int.toNat_natCast, kind_f _ (cel_lt s n)]
  simp only [Option.bind_some]
  by_cases hk : kindN (cel s n) = 80
  case neg =>
    rw [show ((((kindN (cel s n) : Nat) : Int)) != 80) = true from by rw [bne_iff_ne]; omega]
    exact hlive 301 _
  rw [show ((((kindN (cel s n) : Nat) : Int)) != 80) = false from by rw [hk]; rfl]
  have hsd := pawn_side ⟨cel s n, cel_lt s n⟩ hk
  simp only at hsd
  obtain ⟨sd, hsd⟩ : ∃ sd : Fin 2, sideN (cel s n) = ((sd.1 : Nat) : Int) := by
    rcases hsd with e | e
    · exact ⟨0, e⟩
    · exact ⟨1, e⟩
  have hall : ∀ t, fastN (cel s) n t = true → pawnN ((sd.1 : Nat) : Int) n t = true := by
    intro t ht
    unfold fastN canN at ht
    simp only [hk, hsd, Bool.and_eq_true] at ht
    simpa using ht.2
  have hA : allS s n = allN (cel s) n := by unfold allS; rw [if_pos ⟨hs, a0, a9⟩, Int.toNat_natCast]
  simp only [riverbanklaw05_ReachPawn.j0]
  rw [if_neg (by simp), all_f, hA]
  simp only [Option.bind_some]
  have := pawn_l0 n hn (cel s n) (cel_lt s n) sd hsd (allN (cel s) n) (by
    intro t ht
    obtain ⟨h1, h2⟩ := List.mem_filter.1 ht
    exact ⟨List.mem_range.1 h1, hall t h2⟩) (by
    have := pawn_few sd ⟨n, hn⟩
    simp only at this
    unfold allN
    refine Nat.le_trans ?_ this
    rw [← List.countP_eq_length_filter, ← List.countP_eq_length_filter]
    exact List.countP_mono_left (fun t _ ht => hall t ht)) (allN (cel s) n).length 0 301 (by omega) (by
    have := pawn_few sd ⟨n, hn⟩
    simp only at this
    have h3 : (allN (cel s) n).length ≤ 90 := by unfold allN; exact Nat.le_trans (List.length_filter_le _ _) (by simp)
    omega)
  exact this
end Go.Proofs.Ytcanbidenhcohaa.Pure

/- Walks of Go functions, one Lean function and one contract for each, written by a program of this session out of the translation. -/
namespace Go.Proofs.Ytcanbidenhcohaa.reachPawn
open Go.ChangeShapes Go.WideShapes Go.ChangeAt Go.RowKit
open Go.ChangeMaps (open_string shut_string)
set_option linter.unusedVariables false
theorem own : ownKnob Try.prog.godebug = none := by kernel_rfl
set_option maxRecDepth 100000 in
theorem lifted (os : Os) (started : os.Started) (H : Type) (enc : TypeId × Value → H) :
    ReturnsInHanded {} Try.checked os 6 .any (Rows.reachPawnSpec.pre6 enc Try.prog Try.f6 Rows.reachPawnRow.domain false) (Rows.reachPawnSpec.post enc Try.prog Try.f6 false true false false) := by
  refine returnsInHanded_of_change_sized (C := Try.checked) own started (by kernel_rfl) Try.func6
    (ChangeSpec.witness6 (enc := enc) (C := Try.checked) false ⟨#[], #[.string ByteArray.empty, .int .i64 0], []⟩ 8 (by kernel_rfl) (by kernel_rfl) (by kernel_rfl) (by kernel_rfl)) ?_
  intro W base args ds gs before hval0 hW hcnd hsz0 _
  have hsz : (DataW.weightsEach Try.prog (Try.f6.params.toList ++ Rows.reachPawnSpec.plain.varTypes Try.prog) (ds ++ gs)).all (· ≤ reachBytes) = true := hsz0
  have hval : ∀ (j : Nat) t v, Try.f6.params[j]? = some t → args[j]? = some v → Value.okWide Try.prog W .any base t v := hval0
  have hW' := hW
  obtain ⟨p, q, hA0, hV, rfl, hfz, hnd⟩ := hW
  have hA : DataW.TrodAll enc Try.prog W 0 (fun _ => true) true Try.f6.params.toList args.toList ds p := hA0
  rw [Try.params6] at hA hval hsz
  obtain ⟨v0, vs0, d0, ds0, p0, q0, hargs, rfl, rfl, h0, r0⟩ := trodAll_cons hA
  obtain ⟨v1, vs1, d1, ds1, p1, q1, rfl, rfl, rfl, h1, r1⟩ := trodAll_cons r0
  obtain ⟨rfl, rfl, rfl⟩ := trodAll_nil r1
  obtain rfl : args = #[v0, v1] := by cases args; simp_all
  obtain ⟨rfl, rfl⟩ := trodVars_none hV
  obtain ⟨a0, rfl, rfl, rfl, y0⟩ := open_string Try.underlying9 (hval 0 9 v0 rfl rfl) h0
  have w0 : a0.size ≤ 140737488351232 := by
    have z := sized_string hsz (j := 0) (t := 9) rfl rfl
    rw [Array.length_toList] at z
    exact z
  obtain ⟨a1, rfl, rfl, rfl, w1⟩ := open_int Try.underlying3 (hval 1 3 v1 rfl rfl) h1
  clear hA0 hval0 hsz0 hsz
  refine (P.riverbanklaw05_ReachPawn.walk Pure.ReachPawn a0 a1 W w0 w1).mono fun e W' ⟨he, bel⟩ => ?_
  subst he
  exact ⟨_, rfl, _, _, _, [], _, [], hW', trodAll_mk1 (shut_bool Try.underlying4 _), (trodAll_cons_mk (shut_string Try.underlying9 y0) (trodAll_cons_mk (shut_int Try.underlying3 w1) trodAll_mk0)), rfl, bel.frame _, fun h => by cases h⟩
theorem over : Rows.reachPawnRow.holds Try.pinned (OpenSpec.ofChange Rows.reachPawnSpec) :=
  OpenClaim.holds_of_wide 6 Try.f6 rfl rfl rfl rfl rfl rfl rfl ⟨rfl, rfl, rfl, rfl, rfl⟩ rfl rfl rfl rfl rfl (by kernel_rfl) Try.func6 (by kernel_rfl)
    (of_decide_eq_true (by kernel_rfl)) (by unfold Func.isWrapper; first | (rw [if_pos (by decide +kernel)]; kernel_rfl) | (rw [if_neg (by decide +kernel)]; exact ⟨rfl, rfl⟩))
    (fun os started H enc _ => lifted os started H enc)
theorem proved : Rows.ReachPawnSaid := over
end Go.Proofs.Ytcanbidenhcohaa.reachPawn
namespace Go.Proofs.Ytcanbidenhcohaa
/-- The row, under a short name, for the claim. -/
theorem reachPawn_holds : Rows.ReachPawnSaid := reachPawn.proved
end Go.Proofs.Ytcanbidenhcohaa
