/- ReachBlock: for every text and all squares a, b: a red chariot put on a reaches b where nothing stands between (and nothing red on b); a red cannon: an empty b where nothing stands between, a black piece where just one does. No condition of ours. -/
import Derived.Test.YtcanbidenhcohaaRows
import Derived.WalkKit
import Derived.ProofKit
import Derived.OpenShut
import Derived.ShutString
import Derived.ChangeOld
import Derived.Below
import Derived.SizedLaws
import Derived.Test.YtcanbidenhcohaaB1
import Derived.Test.YtcanbidenhcohaaB3
import Derived.Test.YtcanbidenhcohaaB7
import Derived.Test.YtcanbidenhcohaaB9

/- Walks of Go functions, one Lean function and one contract for each, written by a program of this session out of the translation. -/
namespace Go.Proofs.Ytcanbidenhcohaa.P
open Go.RowKit Go.Proofs.YtcanbidenhcohaaW.PrintWords Go.Proofs.YtcanbidenhcohaaW.PrintLast Go.Proofs.YtcanbidenhcohaaW.PrintMore
attribute [local go_sem] max2_int min2_int max_two min_two max_three min_three max_four min_four   -- for this text's walks alone
set_option linter.unusedVariables false
set_option linter.unusedSimpArgs false

/-! ### riverbanklaw05_ReachBack: function 7 -/
mutual
def riverbanklaw05_ReachBack.j0 : Nat → ByteArray → Int → Int → Bool → Option (Bool)
  | 0, _, _, _, _ => none
  | k + 1, x0, x1, x2, x20 => if x20 = true then ((riverbanklaw05_live.f).bind fun t383 => (some t383)) else ((board_At.f x0 x1).bind fun t384 => ((board_At.f x0 x2).bind fun t385 => ((board_Kind.f t384).bind fun t386 => (if t386 = 78 then (riverbanklaw05_ReachBack.j1 k x0 x1 x2 t384 true) else (if t386 = 80 then (riverbanklaw05_ReachBack.j1 k x0 x1 x2 t384 true) else (if t386 = 67 then (if t385 = 46 then ((place_May.f t384 x1).bind fun t387 => (riverbanklaw05_ReachBack.j1 k x0 x1 x2 t384 (!t387))) else (riverbanklaw05_ReachBack.j1 k x0 x1 x2 t384 true)) else ((place_May.f t384 x1).bind fun t388 => (riverbanklaw05_ReachBack.j1 k x0 x1 x2 t384 (!t388)))))))))
def riverbanklaw05_ReachBack.j1 : Nat → ByteArray → Int → Int → Int → Bool → Option (Bool)
  | 0, _, _, _, _, _ => none
  | k + 1, x0, x1, x2, x7, x49 => if x49 = true then ((riverbanklaw05_live.f).bind fun t389 => (some t389)) else ((board_Put.f x0 x1 46).bind fun t390 => ((board_Put.f t390 x2 x7).bind fun t391 => ((reach_Can.f k t391 x2 x1).bind fun t392 => (if t392 = true then ((riverbanklaw05_live.f).bind fun t393 => (some t393)) else (some false)))))
end
def riverbanklaw05_ReachBack.f (k : Nat) (a0 : ByteArray) (a1 : Int) (a2 : Int) : Option (Bool) := if (a0.size : Int) > 200 then (riverbanklaw05_ReachBack.j0 k a0 a1 a2 true) else ((reach_Can.f k a0 a1 a2).bind fun t382 => (riverbanklaw05_ReachBack.j0 k a0 a1 a2 (!t382)))
theorem riverbanklaw05_ReachBack.mono_l : ∀ k, (∀ y0 y1 y2 y3, LeO (riverbanklaw05_ReachBack.j0 k y0 y1 y2 y3) (riverbanklaw05_ReachBack.j0 (k + 1) y0 y1 y2 y3)) ∧ (∀ y0 y1 y2 y3 y4, LeO (riverbanklaw05_ReachBack.j1 k y0 y1 y2 y3 y4) (riverbanklaw05_ReachBack.j1 (k + 1) y0 y1 y2 y3 y4))
  | 0 => ⟨fun _ _ _ _ r h => by simp [riverbanklaw05_ReachBack.j0] at h, fun _ _ _ _ _ r h => by simp [riverbanklaw05_ReachBack.j1] at h⟩
  | k + 1 => by
    obtain ⟨ih0, ih1⟩ := riverbanklaw05_ReachBack.mono_l k
    refine ⟨?_, ?_⟩
    · intro y0 y1 y2 y3
      unfold riverbanklaw05_ReachBack.j0
      repeat' first
      | (with_reducible exact ih0 _ _ _ _)
      | (with_reducible exact ih1 _ _ _ _ _)
      | (with_reducible exact reach_Can.mono _ _ _ _)
      | (with_reducible exact LeO.refl _)
      | (with_reducible exact LeO.none _)
      | (with_reducible refine LeO.ite ?_ ?_)
      | (with_reducible refine LeO.bind ?_ (fun _ => ?_))
      | exact ih0 _ _ _ _
      | exact ih1 _ _ _ _ _
      | exact reach_Can.mono _ _ _ _
      | exact LeO.none _
      | refine LeO.ite ?_ ?_
      | refine LeO.bind ?_ (fun _ => ?_)
    · intro y0 y1 y2 y3 y4
      unfold riverbanklaw05_ReachBack.j1
      repeat' first
      | (with_reducible exact ih0 _ _ _ _)
      | (with_reducible exact ih1 _ _ _ _ _)
      | (with_reducible exact reach_Can.mono _ _ _ _)
      | (with_reducible exact LeO.refl _)
      | (with_reducible exact LeO.none _)
      | (with_reducible refine LeO.ite ?_ ?_)
      | (with_reducible refine LeO.bind ?_ (fun _ => ?_))
      | exact ih0 _ _ _ _
      | exact ih1 _ _ _ _ _
      | exact reach_Can.mono _ _ _ _
      | exact LeO.none _
      | refine LeO.ite ?_ ?_
      | refine LeO.bind ?_ (fun _ => ?_)
theorem riverbanklaw05_ReachBack.mono : ∀ a0 a1 a2 k, LeO (riverbanklaw05_ReachBack.f k a0 a1 a2) (riverbanklaw05_ReachBack.f (k + 1) a0 a1 a2) := by
  intro a0 a1 a2 k
  obtain ⟨ih0, ih1⟩ := riverbanklaw05_ReachBack.mono_l k
  unfold riverbanklaw05_ReachBack.f
  repeat' first
      | (with_reducible exact ih0 _ _ _ _)
      | (with_reducible exact ih1 _ _ _ _ _)
      | (with_reducible exact reach_Can.mono _ _ _ _)
      | (with_reducible exact LeO.refl _)
      | (with_reducible exact LeO.none _)
      | (with_reducible refine LeO.ite ?_ ?_)
      | (with_reducible refine LeO.bind ?_ (fun _ => ?_))
      | exact ih0 _ _ _ _
      | exact ih1 _ _ _ _ _
      | exact reach_Can.mono _ _ _ _
      | exact LeO.none _
      | refine LeO.ite ?_ ?_
      | refine LeO.bind ?_ (fun _ => ?_)
set_option maxHeartbeats 8000000 in
set_option maxRecDepth 100000 in
theorem riverbanklaw05_ReachBack.calls (k : Nat) (a0 : ByteArray) (a1 : Int) (a2 : Int) (r : Bool) (w : World) (h : riverbanklaw05_ReachBack.f k a0 a1 a2 = some r) :
    Calls Try.prog 7 #[.string a0, .int .i64 a1, .int .i64 a2] w fun e w' => e = .returned (.bool r) ∧ Below w.heap.size w w' := by
  have HB := Aside0.mk (Below.refl w.heap.size w)
  have H : (if (a0.size : Int) > 200 then (riverbanklaw05_ReachBack.j0 k a0 a1 a2 true) else ((reach_Can.f k a0 a1 a2).bind fun t382 => (riverbanklaw05_ReachBack.j0 k a0 a1 a2 (!t382)))) = some r := h
  clear h
  have HC4 := Aside0.mk H
  clear H
  go_enter Try.func7, Try.ntmps7
  go_upto_region 1 with (fail)
  go_cut [20] (fun v20 wc => ∃ (kq : Nat) (x20_3 : Bool), v20 = .bool x20_3 ∧ Aside0 (riverbanklaw05_ReachBack.j0 kq a0 a1 a2 x20_3 = some r) ∧ Aside0 (kq ≤ k) ∧ Aside0 (Below w.heap.size w wc))
  case first =>
    have H := HC4.out
    clear HC4
    by_cases c5 : (a0.size : Int) > 200
    · rw [if_pos c5] at H
      have c5b0 : decide (200 < (a0.size : Int)) = true := decide_eq_true c5
      have c5b1 : decide (200 < a0.size) = true := decide_eq_true (by omega)
      clear c5
      (first | rw [c5b0] | (simp only [i64_w, i32_w]; rw [c5b0]) | skip)
      have H' := Aside0.mk H
      clear H
      go_wp2
      go_meet
      case rel => exact ⟨_, (true), (by first | rfl | (simp; done) | (simp [*]; done)), H', ⟨by first | omega | exact Nat.le_refl _⟩, ⟨by repeat (first | (with_reducible first | exact HB.out | apply below_alloc | apply pw_below_drewN | apply below_drew1) | exact HB.out)⟩⟩
    · rw [if_neg c5] at H
      have c5b0 : decide (200 < (a0.size : Int)) = false := decide_eq_false c5
      have c5b1 : decide (200 < a0.size) = false := decide_eq_false (by omega)
      clear c5
      (first | rw [c5b0] | (simp only [i64_w, i32_w]; rw [c5b0]) | skip)
      replace H := Option.bind_eq_some_iff.mp H
      obtain ⟨t382, A60, H⟩ := H
      replace H : (riverbanklaw05_ReachBack.j0 k a0 a1 a2 (!t382)) = some r := H
      have A6 := Aside0.mk A60
      clear A60
      have H' := Aside0.mk H
      clear H
      go_wp2_with (first | (go_at_call 17; (with_reducible refine (reach_Can.calls k a0 a1 a2 t382 _ A6.out).mono ?_); rintro e w7 ⟨rfl, hb⟩; have n0_ := Aside0.mk (below_step (by repeat (first | (with_reducible first | exact HB.out | apply below_alloc | apply pw_below_drewN | apply below_drew1) | exact HB.out)) hb); clear HB; have HB := n0_; clear n0_; (try clear hb); (try clear hb2); (try clear hk); (try clear hi)))
      go_meet
      case rel => exact ⟨_, (!t382), (by first | rfl | (simp; done) | (simp [*]; done)), H', ⟨by first | omega | exact Nat.le_refl _⟩, ⟨by repeat (first | (with_reducible first | exact HB.out | apply below_alloc | apply pw_below_drewN | apply below_drew1) | exact HB.out)⟩⟩
  case rest =>
    clear HC4
    try clear p2
    try clear c5
    try clear c5b0
    try clear c5b1
    try clear c7
    obtain ⟨kq, x20_3, rfl, HA, HJ3, HB⟩ := hcut
    cases kq with
    | zero => exact absurd HA.out (by simp [riverbanklaw05_ReachBack.j0])
    | succ kj3 =>
      have H := HA.out
      clear HA
      simp only [riverbanklaw05_ReachBack.j0] at H
      by_cases c8 : x20_3 = true
      · subst c8
        have H1 : ((riverbanklaw05_live.f).bind fun t383 => (some t383)) = some r := by rw [if_pos rfl] at H; exact H
        clear H
        have H := H1
        clear H1
        replace H := Option.bind_eq_some_iff.mp H
        obtain ⟨t383, A90, H⟩ := H
        replace H : (some t383) = some r := H
        have A9 := Aside0.mk A90
        clear A90
        obtain rfl := Option.some.inj H
        go_wp2_with (first | ((with_reducible refine gate_callee (f := 13) rfl ?_); refine goesL_ (some 21) rfl rfl Try.func13 (by kernel_rfl) rfl #[] rfl (by (try simp only [List.map_toArray, List.map_cons, List.map_nil]); first | done | rfl | (simp only [List.length_drop, List.length_take]; rfl)) ?_; (with_reducible refine (riverbanklaw05_live.calls  t383 _ A9.out).mono ?_); rintro e w10 ⟨rfl, hb⟩; refine ⟨_, rfl, ?_⟩; have n0_ := Aside0.mk (below_step (by repeat (first | (with_reducible first | exact HB.out | apply below_alloc | apply pw_below_drewN | apply below_drew1) | exact HB.out)) hb); clear HB; have HB := n0_; clear n0_; (try clear hb); (try clear hb2); (try clear hk); (try clear hi)))
        go_ret
        exact ⟨by first | rfl | (simp [errW_none, errW_some] <;> rfl) | (simp [*, errW_none, errW_some] <;> rfl), by repeat (first | (with_reducible first | exact HB.out | apply below_alloc | apply pw_below_drewN | apply below_drew1) | exact HB.out)⟩
      · replace c8 := Bool.eq_false_iff.mpr c8
        subst c8
        have H1 : ((board_At.f a0 a1).bind fun t384 => ((board_At.f a0 a2).bind fun t385 => ((board_Kind.f t384).bind fun t386 => (if t386 = 78 then (riverbanklaw05_ReachBack.j1 kj3 a0 a1 a2 t384 true) else (if t386 = 80 then (riverbanklaw05_ReachBack.j1 kj3 a0 a1 a2 t384 true) else (if t386 = 67 then (if t385 = 46 then ((place_May.f t384 a1).bind fun t387 => (riverbanklaw05_ReachBack.j1 kj3 a0 a1 a2 t384 (!t387))) else (riverbanklaw05_ReachBack.j1 kj3 a0 a1 a2 t384 true)) else ((place_May.f t384 a1).bind fun t388 => (riverbanklaw05_ReachBack.j1 kj3 a0 a1 a2 t384 (!t388))))))))) = some r := by rw [if_neg (show ¬ (false = true) by decide)] at H; exact H
        clear H
        have H := H1
        clear H1
        replace H := Option.bind_eq_some_iff.mp H
        obtain ⟨t384, A110, H⟩ := H
        replace H : ((board_At.f a0 a2).bind fun t385 => ((board_Kind.f t384).bind fun t386 => (if t386 = 78 then (riverbanklaw05_ReachBack.j1 kj3 a0 a1 a2 t384 true) else (if t386 = 80 then (riverbanklaw05_ReachBack.j1 kj3 a0 a1 a2 t384 true) else (if t386 = 67 then (if t385 = 46 then ((place_May.f t384 a1).bind fun t387 => (riverbanklaw05_ReachBack.j1 kj3 a0 a1 a2 t384 (!t387))) else (riverbanklaw05_ReachBack.j1 kj3 a0 a1 a2 t384 true)) else ((place_May.f t384 a1).bind fun t388 => (riverbanklaw05_ReachBack.j1 kj3 a0 a1 a2 t384 (!t388)))))))) = some r := H
        have A11 := Aside0.mk A110
        clear A110
        replace H := Option.bind_eq_some_iff.mp H
        obtain ⟨t385, A120, H⟩ := H
        replace H : ((board_Kind.f t384).bind fun t386 => (if t386 = 78 then (riverbanklaw05_ReachBack.j1 kj3 a0 a1 a2 t384 true) else (if t386 = 80 then (riverbanklaw05_ReachBack.j1 kj3 a0 a1 a2 t384 true) else (if t386 = 67 then (if t385 = 46 then ((place_May.f t384 a1).bind fun t387 => (riverbanklaw05_ReachBack.j1 kj3 a0 a1 a2 t384 (!t387))) else (riverbanklaw05_ReachBack.j1 kj3 a0 a1 a2 t384 true)) else ((place_May.f t384 a1).bind fun t388 => (riverbanklaw05_ReachBack.j1 kj3 a0 a1 a2 t384 (!t388))))))) = some r := H
        have A12 := Aside0.mk A120
        clear A120
        replace H := Option.bind_eq_some_iff.mp H
        obtain ⟨t386, A130, H⟩ := H
        replace H : (if t386 = 78 then (riverbanklaw05_ReachBack.j1 kj3 a0 a1 a2 t384 true) else (if t386 = 80 then (riverbanklaw05_ReachBack.j1 kj3 a0 a1 a2 t384 true) else (if t386 = 67 then (if t385 = 46 then ((place_May.f t384 a1).bind fun t387 => (riverbanklaw05_ReachBack.j1 kj3 a0 a1 a2 t384 (!t387))) else (riverbanklaw05_ReachBack.j1 kj3 a0 a1 a2 t384 true)) else ((place_May.f t384 a1).bind fun t388 => (riverbanklaw05_ReachBack.j1 kj3 a0 a1 a2 t384 (!t388)))))) = some r := H
        have A13 := Aside0.mk A130
        clear A130
        have HC14 := Aside0.mk H
        clear H
        go_upto_region 6 with (first | ((with_reducible refine gate_callee (f := 23) rfl ?_); refine goesL_ (some 24) rfl rfl Try.func23 (by kernel_rfl) rfl #[.string a0, .int .i64 a1] rfl (by (try simp only [List.map_toArray, List.map_cons, List.map_nil]); first | done | rfl | (simp only [List.length_drop, List.length_take]; rfl)) ?_; (with_reducible refine (board_At.calls a0 a1 t384 _ A11.out).mono ?_); rintro e w15 ⟨rfl, hb⟩; refine ⟨_, rfl, ?_⟩; have n0_ := Aside0.mk (below_step (by repeat (first | (with_reducible first | exact HB.out | apply below_alloc | apply pw_below_drewN | apply below_drew1) | exact HB.out)) hb); clear HB; have HB := n0_; clear n0_; (try clear hb); (try clear hb2); (try clear hk); (try clear hi)) | ((with_reducible refine gate_callee (f := 23) rfl ?_); refine goesL_ (some 27) rfl rfl Try.func23 (by kernel_rfl) rfl #[.string a0, .int .i64 a2] rfl (by (try simp only [List.map_toArray, List.map_cons, List.map_nil]); first | done | rfl | (simp only [List.length_drop, List.length_take]; rfl)) ?_; (with_reducible refine (board_At.calls a0 a2 t385 _ A12.out).mono ?_); rintro e w16 ⟨rfl, hb⟩; refine ⟨_, rfl, ?_⟩; have n0_ := Aside0.mk (below_step (by repeat (first | (with_reducible first | exact HB.out | apply below_alloc | apply pw_below_drewN | apply below_drew1) | exact HB.out)) hb); clear HB; have HB := n0_; clear n0_; (try clear hb); (try clear hb2); (try clear hk); (try clear hi)) | ((with_reducible refine gate_callee (f := 24) rfl ?_); refine goesL_ (some 29) rfl rfl Try.func24 (by kernel_rfl) rfl #[.int .u8 t384] rfl (by (try simp only [List.map_toArray, List.map_cons, List.map_nil]); first | done | rfl | (simp only [List.length_drop, List.length_take]; rfl)) ?_; (with_reducible refine (board_Kind.calls t384 t386 _ A13.out).mono ?_); rintro e w' ⟨rfl, ⟨nd, rfl⟩⟩; refine ⟨_, rfl, ?_⟩))
        (try simp only [Act.put, List.setIfInBounds_toArray, List.set_cons_zero, List.set_cons_succ])
        go_cut [49] (fun v49 wc => ∃ (kq : Nat) (x49_13 : Bool), v49 = .bool x49_13 ∧ Aside0 (riverbanklaw05_ReachBack.j1 kq a0 a1 a2 t384 x49_13 = some r) ∧ Aside0 (kq ≤ kj3) ∧ Aside0 (Below w.heap.size w wc))
        case first =>
          have H := HC14.out
          clear HC14
          by_cases c17 : t386 = 78
          · rw [if_pos c17] at H
            have c17b0 : (t386 == 78) = true := beq_iff_eq.mpr c17
            have c17b1 : (t386 != 78) = false := bne_eq_false_iff_eq.mpr c17
            clear c17
            (first | rw [c17b0] | (simp only [i64_w, i32_w]; rw [c17b0]) | skip)
            have H' := Aside0.mk H
            clear H
            go_wp2
            go_meet
            case rel => exact ⟨_, (true), (by first | rfl | (simp; done) | (simp [*]; done)), H', ⟨by have := HJ3.out; first | omega | exact Nat.le_refl _⟩, ⟨by repeat (first | (with_reducible first | exact HB.out | apply below_alloc | apply pw_below_drewN | apply below_drew1) | exact HB.out)⟩⟩
          · rw [if_neg c17] at H
            have c17b0 : (t386 == 78) = false := beq_eq_false_iff_ne.mpr c17
            have c17b1 : (t386 != 78) = true := bne_iff_ne.mpr c17
            (first | rw [c17b0] | (simp only [i64_w, i32_w]; rw [c17b0]) | skip)
            by_cases c18 : t386 = 80
            · rw [if_pos c18] at H
              have c18b0 : (t386 == 80) = true := beq_iff_eq.mpr c18
              have c18b1 : (t386 != 80) = false := bne_eq_false_iff_eq.mpr c18
              clear c18
              have H' := Aside0.mk H
              clear H
              go_wp2
              go_meet
              case rel => exact ⟨_, (true), (by first | rfl | (simp; done) | (simp [*]; done)), H', ⟨by have := HJ3.out; first | omega | exact Nat.le_refl _⟩, ⟨by repeat (first | (with_reducible first | exact HB.out | apply below_alloc | apply pw_below_drewN | apply below_drew1) | exact HB.out)⟩⟩
            · rw [if_neg c18] at H
              have c18b0 : (t386 == 80) = false := beq_eq_false_iff_ne.mpr c18
              have c18b1 : (t386 != 80) = true := bne_iff_ne.mpr c18
              by_cases c19 : t386 = 67
              · rw [if_pos c19] at H
                have c19b0 : (t386 == 67) = true := beq_iff_eq.mpr c19
                have c19b1 : (t386 != 67) = false := bne_eq_false_iff_eq.mpr c19
                clear c19
                by_cases c20 : t385 = 46
                · rw [if_pos c20] at H
                  have c20b0 : (t385 == 46) = true := beq_iff_eq.mpr c20
                  have c20b1 : (t385 != 46) = false := bne_eq_false_iff_eq.mpr c20
                  clear c20
                  replace H := Option.bind_eq_some_iff.mp H
                  obtain ⟨t387, A210, H⟩ := H
                  replace H : (riverbanklaw05_ReachBack.j1 kj3 a0 a1 a2 t384 (!t387)) = some r := H
                  have A21 := Aside0.mk A210
                  clear A210
                  have H' := Aside0.mk H
                  clear H
                  go_wp2_with (first | (go_at_call 28; (with_reducible refine (place_May.calls t384 a1 t387 _ A21.out).mono ?_); rintro e w22 ⟨rfl, hb⟩; have n0_ := Aside0.mk (below_step (by repeat (first | (with_reducible first | exact HB.out | apply below_alloc | apply pw_below_drewN | apply below_drew1) | exact HB.out)) hb); clear HB; have HB := n0_; clear n0_; (try clear hb); (try clear hb2); (try clear hk); (try clear hi)))
                  go_meet
                  case rel => exact ⟨_, (!t387), (by first | rfl | (simp; done) | (simp [*]; done)), H', ⟨by have := HJ3.out; first | omega | exact Nat.le_refl _⟩, ⟨by repeat (first | (with_reducible first | exact HB.out | apply below_alloc | apply pw_below_drewN | apply below_drew1) | exact HB.out)⟩⟩
                · rw [if_neg c20] at H
                  have c20b0 : (t385 == 46) = false := beq_eq_false_iff_ne.mpr c20
                  have c20b1 : (t385 != 46) = true := bne_iff_ne.mpr c20
                  have H' := Aside0.mk H
                  clear H
                  go_wp2
                  go_meet
                  case rel => exact ⟨_, (true), (by first | rfl | (simp; done) | (simp [*]; done)), H', ⟨by have := HJ3.out; first | omega | exact Nat.le_refl _⟩, ⟨by repeat (first | (with_reducible first | exact HB.out | apply below_alloc | apply pw_below_drewN | apply below_drew1) | exact HB.out)⟩⟩
              · rw [if_neg c19] at H
                have c19b0 : (t386 == 67) = false := beq_eq_false_iff_ne.mpr c19
                have c19b1 : (t386 != 67) = true := bne_iff_ne.mpr c19
                replace H := Option.bind_eq_some_iff.mp H
                obtain ⟨t388, A230, H⟩ := H
                replace H : (riverbanklaw05_ReachBack.j1 kj3 a0 a1 a2 t384 (!t388)) = some r := H
                have A23 := Aside0.mk A230
                clear A230
                have H' := Aside0.mk H
                clear H
                go_wp2_with (first | (go_at_call 28; (with_reducible refine (place_May.calls t384 a1 t388 _ A23.out).mono ?_); rintro e w24 ⟨rfl, hb⟩; have n0_ := Aside0.mk (below_step (by repeat (first | (with_reducible first | exact HB.out | apply below_alloc | apply pw_below_drewN | apply below_drew1) | exact HB.out)) hb); clear HB; have HB := n0_; clear n0_; (try clear hb); (try clear hb2); (try clear hk); (try clear hi)))
                go_meet
                case rel => exact ⟨_, (!t388), (by first | rfl | (simp; done) | (simp [*]; done)), H', ⟨by have := HJ3.out; first | omega | exact Nat.le_refl _⟩, ⟨by repeat (first | (with_reducible first | exact HB.out | apply below_alloc | apply pw_below_drewN | apply below_drew1) | exact HB.out)⟩⟩
        case rest =>
          clear HC14
          try clear c1
          try clear c2
          try clear p2
          try clear c5
          try clear c5b0
          try clear c5b1
          try clear c7
          try clear c8
          try clear c13
          try clear c17
          try clear c17b0
          try clear c17b1
          try clear c18
          try clear c18b0
          try clear c18b1
          try clear c19
          try clear c19b0
          try clear c19b1
          try clear c20
          try clear c20b0
          try clear c20b1
          try clear c23
          try clear c24
          try clear p2
          obtain ⟨kq, x49_13, rfl, HA, HJ13, HB⟩ := hcut
          cases kq with
          | zero => exact absurd HA.out (by simp [riverbanklaw05_ReachBack.j1])
          | succ kj13 =>
            have H := HA.out
            clear HA
            simp only [riverbanklaw05_ReachBack.j1] at H
            by_cases c25 : x49_13 = true
            · subst c25
              have H1 : ((riverbanklaw05_live.f).bind fun t389 => (some t389)) = some r := by rw [if_pos rfl] at H; exact H
              clear H
              have H := H1
              clear H1
              replace H := Option.bind_eq_some_iff.mp H
              obtain ⟨t389, A260, H⟩ := H
              replace H : (some t389) = some r := H
              have A26 := Aside0.mk A260
              clear A260
              obtain rfl := Option.some.inj H
              go_wp2_with (first | ((with_reducible refine gate_callee (f := 13) rfl ?_); refine goesL_ (some 50) rfl rfl Try.func13 (by kernel_rfl) rfl #[] rfl (by (try simp only [List.map_toArray, List.map_cons, List.map_nil]); first | done | rfl | (simp only [List.length_drop, List.length_take]; rfl)) ?_; (with_reducible refine (riverbanklaw05_live.calls  t389 _ A26.out).mono ?_); rintro e w27 ⟨rfl, hb⟩; refine ⟨_, rfl, ?_⟩; have n0_ := Aside0.mk (below_step (by repeat (first | (with_reducible first | exact HB.out | apply below_alloc | apply pw_below_drewN | apply below_drew1) | exact HB.out)) hb); clear HB; have HB := n0_; clear n0_; (try clear hb); (try clear hb2); (try clear hk); (try clear hi)))
              go_ret
              exact ⟨by first | rfl | (simp [errW_none, errW_some] <;> rfl) | (simp [*, errW_none, errW_some] <;> rfl), by repeat (first | (with_reducible first | exact HB.out | apply below_alloc | apply pw_below_drewN | apply below_drew1) | exact HB.out)⟩
            · replace c25 := Bool.eq_false_iff.mpr c25
              subst c25
              have H1 : ((board_Put.f a0 a1 46).bind fun t390 => ((board_Put.f t390 a2 t384).bind fun t391 => ((reach_Can.f kj13 t391 a2 a1).bind fun t392 => (if t392 = true then ((riverbanklaw05_live.f).bind fun t393 => (some t393)) else (some false))))) = some r := by rw [if_neg (show ¬ (false = true) by decide)] at H; exact H
              clear H
              have H := H1
              clear H1
              replace H := Option.bind_eq_some_iff.mp H
              obtain ⟨t390, A280, H⟩ := H
              replace H : ((board_Put.f t390 a2 t384).bind fun t391 => ((reach_Can.f kj13 t391 a2 a1).bind fun t392 => (if t392 = true then ((riverbanklaw05_live.f).bind fun t393 => (some t393)) else (some false)))) = some r := H
              have A28 := Aside0.mk A280
              clear A280
              replace H := Option.bind_eq_some_iff.mp H
              obtain ⟨t391, A290, H⟩ := H
              replace H : ((reach_Can.f kj13 t391 a2 a1).bind fun t392 => (if t392 = true then ((riverbanklaw05_live.f).bind fun t393 => (some t393)) else (some false))) = some r := H
              have A29 := Aside0.mk A290
              clear A290
              replace H := Option.bind_eq_some_iff.mp H
              obtain ⟨t392, A300, H⟩ := H
              replace H : (if t392 = true then ((riverbanklaw05_live.f).bind fun t393 => (some t393)) else (some false)) = some r := H
              have A30 := Aside0.mk A300
              clear A300
              by_cases c31 : t392 = true
              · subst c31
                have H1 : ((riverbanklaw05_live.f).bind fun t393 => (some t393)) = some r := by rw [if_pos rfl] at H; exact H
                clear H
                have H := H1
                clear H1
                replace H := Option.bind_eq_some_iff.mp H
                obtain ⟨t393, A320, H⟩ := H
                replace H : (some t393) = some r := H
                have A32 := Aside0.mk A320
                clear A320
                obtain rfl := Option.some.inj H
                go_wp2_with (first | ((with_reducible refine gate_callee (f := 29) rfl ?_); refine goesL_ (some 53) rfl rfl Try.func29 (by kernel_rfl) rfl #[.string a0, .int .i64 a1, .int .u8 46] rfl (by (try simp only [List.map_toArray, List.map_cons, List.map_nil]); first | done | rfl | (simp only [List.length_drop, List.length_take]; rfl)) ?_; (with_reducible refine (board_Put.calls a0 a1 46 t390 _ A28.out).mono ?_); rintro e w33 ⟨rfl, hb⟩; refine ⟨_, rfl, ?_⟩; have n0_ := Aside0.mk (below_step (by repeat (first | (with_reducible first | exact HB.out | apply below_alloc | apply pw_below_drewN | apply below_drew1) | exact HB.out)) hb); clear HB; have HB := n0_; clear n0_; (try clear hb); (try clear hb2); (try clear hk); (try clear hi)) | ((with_reducible refine gate_callee (f := 29) rfl ?_); refine goesL_ (some 56) rfl rfl Try.func29 (by kernel_rfl) rfl #[.string t390, .int .i64 a2, .int .u8 t384] rfl (by (try simp only [List.map_toArray, List.map_cons, List.map_nil]); first | done | rfl | (simp only [List.length_drop, List.length_take]; rfl)) ?_; (with_reducible refine (board_Put.calls t390 a2 t384 t391 _ A29.out).mono ?_); rintro e w34 ⟨rfl, hb⟩; refine ⟨_, rfl, ?_⟩; have n0_ := Aside0.mk (below_step (by repeat (first | (with_reducible first | exact HB.out | apply below_alloc | apply pw_below_drewN | apply below_drew1) | exact HB.out)) hb); clear HB; have HB := n0_; clear n0_; (try clear hb); (try clear hb2); (try clear hk); (try clear hi)) | ((with_reducible refine gate_callee (f := 17) rfl ?_); refine goesL_ (some 60) rfl rfl Try.func17 (by kernel_rfl) rfl #[.string t391, .int .i64 a2, .int .i64 a1] rfl (by (try simp only [List.map_toArray, List.map_cons, List.map_nil]); first | done | rfl | (simp only [List.length_drop, List.length_take]; rfl)) ?_; (with_reducible refine (reach_Can.calls kj13 t391 a2 a1 true _ A30.out).mono ?_); rintro e w35 ⟨rfl, hb⟩; refine ⟨_, rfl, ?_⟩; have n0_ := Aside0.mk (below_step (by repeat (first | (with_reducible first | exact HB.out | apply below_alloc | apply pw_below_drewN | apply below_drew1) | exact HB.out)) hb); clear HB; have HB := n0_; clear n0_; (try clear hb); (try clear hb2); (try clear hk); (try clear hi)) | (go_at_call 13; (with_reducible refine (riverbanklaw05_live.calls  t393 _ A32.out).mono ?_); rintro e w36 ⟨rfl, hb⟩; have n0_ := Aside0.mk (below_step (by repeat (first | (with_reducible first | exact HB.out | apply below_alloc | apply pw_below_drewN | apply below_drew1) | exact HB.out)) hb); clear HB; have HB := n0_; clear n0_; (try clear hb); (try clear hb2); (try clear hk); (try clear hi)))
                go_ret
                exact ⟨by first | rfl | (simp [errW_none, errW_some] <;> rfl) | (simp [*, errW_none, errW_some] <;> rfl), by repeat (first | (with_reducible first | exact HB.out | apply below_alloc | apply pw_below_drewN | apply below_drew1) | exact HB.out)⟩
              · replace c31 := Bool.eq_false_iff.mpr c31
                subst c31
                have H1 : (some false) = some r := by rw [if_neg (show ¬ (false = true) by decide)] at H; exact H
                clear H
                have H := H1
                clear H1
                obtain rfl := Option.some.inj H
                go_wp2_with (first | ((with_reducible refine gate_callee (f := 29) rfl ?_); refine goesL_ (some 53) rfl rfl Try.func29 (by kernel_rfl) rfl #[.string a0, .int .i64 a1, .int .u8 46] rfl (by (try simp only [List.map_toArray, List.map_cons, List.map_nil]); first | done | rfl | (simp only [List.length_drop, List.length_take]; rfl)) ?_; (with_reducible refine (board_Put.calls a0 a1 46 t390 _ A28.out).mono ?_); rintro e w37 ⟨rfl, hb⟩; refine ⟨_, rfl, ?_⟩; have n0_ := Aside0.mk (below_step (by repeat (first | (with_reducible first | exact HB.out | apply below_alloc | apply pw_below_drewN | apply below_drew1) | exact HB.out)) hb); clear HB; have HB := n0_; clear n0_; (try clear hb); (try clear hb2); (try clear hk); (try clear hi)) | ((with_reducible refine gate_callee (f := 29) rfl ?_); refine goesL_ (some 56) rfl rfl Try.func29 (by kernel_rfl) rfl #[.string t390, .int .i64 a2, .int .u8 t384] rfl (by (try simp only [List.map_toArray, List.map_cons, List.map_nil]); first | done | rfl | (simp only [List.length_drop, List.length_take]; rfl)) ?_; (with_reducible refine (board_Put.calls t390 a2 t384 t391 _ A29.out).mono ?_); rintro e w38 ⟨rfl, hb⟩; refine ⟨_, rfl, ?_⟩; have n0_ := Aside0.mk (below_step (by repeat (first | (with_reducible first | exact HB.out | apply below_alloc | apply pw_below_drewN | apply below_drew1) | exact HB.out)) hb); clear HB; have HB := n0_; clear n0_; (try clear hb); (try clear hb2); (try clear hk); (try clear hi)) | ((with_reducible refine gate_callee (f := 17) rfl ?_); refine goesL_ (some 60) rfl rfl Try.func17 (by kernel_rfl) rfl #[.string t391, .int .i64 a2, .int .i64 a1] rfl (by (try simp only [List.map_toArray, List.map_cons, List.map_nil]); first | done | rfl | (simp only [List.length_drop, List.length_take]; rfl)) ?_; (with_reducible refine (reach_Can.calls kj13 t391 a2 a1 false _ A30.out).mono ?_); rintro e w39 ⟨rfl, hb⟩; refine ⟨_, rfl, ?_⟩; have n0_ := Aside0.mk (below_step (by repeat (first | (with_reducible first | exact HB.out | apply below_alloc | apply pw_below_drewN | apply below_drew1) | exact HB.out)) hb); clear HB; have HB := n0_; clear n0_; (try clear hb); (try clear hb2); (try clear hk); (try clear hi)))
                go_ret
                exact ⟨by first | rfl | (simp [errW_none, errW_some] <;> rfl) | (simp [*, errW_none, errW_some] <;> rfl), by repeat (first | (with_reducible first | exact HB.out | apply below_alloc | apply pw_below_drewN | apply below_drew1) | exact HB.out)⟩

/-- THE ONE PURE STATEMENT of riverbanklaw05_ReachBack: yours. -/
def riverbanklaw05_ReachBack.Pure : Prop := ∀ (a0 : ByteArray) (a1 : Int) (a2 : Int), a0.size ≤ 140737488351232 → (Lit.int .i64 a1).wf = true → (Lit.int .i64 a2).wf = true → ∃ k, riverbanklaw05_ReachBack.f k a0 a1 a2 = some true
theorem riverbanklaw05_ReachBack.walk (P : riverbanklaw05_ReachBack.Pure) (a0 : ByteArray) (a1 : Int) (a2 : Int) (w : World) (w0 : a0.size ≤ 140737488351232) (w1 : (Lit.int .i64 a1).wf = true) (w2 : (Lit.int .i64 a2).wf = true) :
    Calls Try.prog 7 #[.string a0, .int .i64 a1, .int .i64 a2] w fun e w' => e = .returned (.bool true) ∧ Below w.heap.size w w' := by
  obtain ⟨k, h⟩ := P a0 a1 a2 w0 w1 w2
  refine (riverbanklaw05_ReachBack.calls k a0 a1 a2 true w h).mono ?_
  rintro e w' ⟨rfl, hd⟩
  exact ⟨rfl, hd⟩

/-! ### riverbanklaw05_ReachBlock: function 8 -/
mutual
def riverbanklaw05_ReachBlock.j0 : Nat → ByteArray → Int → Int → Int → Bool → Option (Bool)
  | 0, _, _, _, _, _ => none
  | k + 1, x0, x1, x2, x7, x21 => if x21 = true then ((riverbanklaw05_live.f).bind fun t395 => (some t395)) else ((board_At.f x0 x2).bind fun t396 => (if t396 = 46 then (riverbanklaw05_ReachBlock.j1 k x0 x1 x2 x7 t396 true) else ((board_Side.f t396).bind fun t397 => (riverbanklaw05_ReachBlock.j1 k x0 x1 x2 x7 t396 (t397 == 1)))))
def riverbanklaw05_ReachBlock.j1 : Nat → ByteArray → Int → Int → Int → Int → Bool → Option (Bool)
  | 0, _, _, _, _, _, _ => none
  | k + 1, x0, x1, x2, x7, x8, x32 => if x32 = true then ((board_Put.f x0 x1 82).bind fun t398 => ((board_Put.f x0 x1 67).bind fun t399 => ((reach_Can.f k t398 x1 x2).bind fun t400 => (if (t400 == (x7 == 0)) = true then ((reach_Can.f k t399 x1 x2).bind fun t401 => (if x8 = 46 then (if x7 = 0 then (if (t401 == true) = true then ((riverbanklaw05_live.f).bind fun t402 => (some t402)) else (some false)) else (if (t401 == false) = true then ((riverbanklaw05_live.f).bind fun t403 => (some t403)) else (some false))) else (if (t401 == (x7 == 1)) = true then ((riverbanklaw05_live.f).bind fun t404 => (some t404)) else (some false)))) else (some false))))) else ((board_Put.f x0 x1 82).bind fun t405 => ((reach_Can.f k t405 x1 x2).bind fun t406 => (if t406 = true then (some false) else ((riverbanklaw05_live.f).bind fun t407 => (some t407)))))
end
def riverbanklaw05_ReachBlock.f (k : Nat) (a0 : ByteArray) (a1 : Int) (a2 : Int) : Option (Bool) := (reach_Between.f k a0 a1 a2).bind fun t394 => (if (a0.size : Int) > 200 then (riverbanklaw05_ReachBlock.j0 k a0 a1 a2 t394 true) else (riverbanklaw05_ReachBlock.j0 k a0 a1 a2 t394 (decide (t394 < 0))))
theorem riverbanklaw05_ReachBlock.mono_l : ∀ k, (∀ y0 y1 y2 y3 y4, LeO (riverbanklaw05_ReachBlock.j0 k y0 y1 y2 y3 y4) (riverbanklaw05_ReachBlock.j0 (k + 1) y0 y1 y2 y3 y4)) ∧ (∀ y0 y1 y2 y3 y4 y5, LeO (riverbanklaw05_ReachBlock.j1 k y0 y1 y2 y3 y4 y5) (riverbanklaw05_ReachBlock.j1 (k + 1) y0 y1 y2 y3 y4 y5))
  | 0 => ⟨fun _ _ _ _ _ r h => by simp [riverbanklaw05_ReachBlock.j0] at h, fun _ _ _ _ _ _ r h => by simp [riverbanklaw05_ReachBlock.j1] at h⟩
  | k + 1 => by
    obtain ⟨ih0, ih1⟩ := riverbanklaw05_ReachBlock.mono_l k
    refine ⟨?_, ?_⟩
    · intro y0 y1 y2 y3 y4
      unfold riverbanklaw05_ReachBlock.j0
      repeat' first
      | (with_reducible exact ih0 _ _ _ _ _)
      | (with_reducible exact ih1 _ _ _ _ _ _)
      | (with_reducible exact reach_Between.mono _ _ _ _)
      | (with_reducible exact reach_Can.mono _ _ _ _)
      | (with_reducible exact LeO.refl _)
      | (with_reducible exact LeO.none _)
      | (with_reducible refine LeO.ite ?_ ?_)
      | (with_reducible refine LeO.bind ?_ (fun _ => ?_))
      | exact ih0 _ _ _ _ _
      | exact ih1 _ _ _ _ _ _
      | exact reach_Between.mono _ _ _ _
      | exact reach_Can.mono _ _ _ _
      | exact LeO.none _
      | refine LeO.ite ?_ ?_
      | refine LeO.bind ?_ (fun _ => ?_)
    · intro y0 y1 y2 y3 y4 y5
      unfold riverbanklaw05_ReachBlock.j1
      repeat' first
      | (with_reducible exact ih0 _ _ _ _ _)
      | (with_reducible exact ih1 _ _ _ _ _ _)
      | (with_reducible exact reach_Between.mono _ _ _ _)
      | (with_reducible exact reach_Can.mono _ _ _ _)
      | (with_reducible exact LeO.refl _)
      | (with_reducible exact LeO.none _)
      | (with_reducible refine LeO.ite ?_ ?_)
      | (with_reducible refine LeO.bind ?_ (fun _ => ?_))
      | exact ih0 _ _ _ _ _
      | exact ih1 _ _ _ _ _ _
      | exact reach_Between.mono _ _ _ _
      | exact reach_Can.mono _ _ _ _
      | exact LeO.none _
      | refine LeO.ite ?_ ?_
      | refine LeO.bind ?_ (fun _ => ?_)
theorem riverbanklaw05_ReachBlock.mono : ∀ a0 a1 a2 k, LeO (riverbanklaw05_ReachBlock.f k a0 a1 a2) (riverbanklaw05_ReachBlock.f (k + 1) a0 a1 a2) := by
  intro a0 a1 a2 k
  obtain ⟨ih0, ih1⟩ := riverbanklaw05_ReachBlock.mono_l k
  unfold riverbanklaw05_ReachBlock.f
  repeat' first
      | (with_reducible exact ih0 _ _ _ _ _)
      | (with_reducible exact ih1 _ _ _ _ _ _)
      | (with_reducible exact reach_Between.mono _ _ _ _)
      | (with_reducible exact reach_Can.mono _ _ _ _)
      | (with_reducible exact LeO.refl _)
      | (with_reducible exact LeO.none _)
      | (with_reducible refine LeO.ite ?_ ?_)
      | (with_reducible refine LeO.bind ?_ (fun _ => ?_))
      | exact ih0 _ _ _ _ _
      | exact ih1 _ _ _ _ _ _
      | exact reach_Between.mono _ _ _ _
      | exact reach_Can.mono _ _ _ _
      | exact LeO.none _
      | refine LeO.ite ?_ ?_
      | refine LeO.bind ?_ (fun _ => ?_)
set_option maxHeartbeats 8000000 in
set_option maxRecDepth 100000 in
theorem riverbanklaw05_ReachBlock.calls (k : Nat) (a0 : ByteArray) (a1 : Int) (a2 : Int) (r : Bool) (w : World) (h : riverbanklaw05_ReachBlock.f k a0 a1 a2 = some r) :
    Calls Try.prog 8 #[.string a0, .int .i64 a1, .int .i64 a2] w fun e w' => e = .returned (.bool r) ∧ Below w.heap.size w w' := by
  have HB := Aside0.mk (Below.refl w.heap.size w)
  have H : ((reach_Between.f k a0 a1 a2).bind fun t394 => (if (a0.size : Int) > 200 then (riverbanklaw05_ReachBlock.j0 k a0 a1 a2 t394 true) else (riverbanklaw05_ReachBlock.j0 k a0 a1 a2 t394 (decide (t394 < 0))))) = some r := h
  clear h
  replace H := Option.bind_eq_some_iff.mp H
  obtain ⟨t394, A40, H⟩ := H
  replace H : (if (a0.size : Int) > 200 then (riverbanklaw05_ReachBlock.j0 k a0 a1 a2 t394 true) else (riverbanklaw05_ReachBlock.j0 k a0 a1 a2 t394 (decide (t394 < 0)))) = some r := H
  have A4 := Aside0.mk A40
  clear A40
  have HC5 := Aside0.mk H
  clear H
  go_enter Try.func8, Try.ntmps8
  go_upto_region 2 with (first | ((with_reducible refine gate_callee (f := 19) rfl ?_); refine goesL_ (some 14) rfl rfl Try.func19 (by kernel_rfl) rfl #[.string a0, .int .i64 a1, .int .i64 a2] rfl (by (try simp only [List.map_toArray, List.map_cons, List.map_nil]); first | done | rfl | (simp only [List.length_drop, List.length_take]; rfl)) ?_; (with_reducible refine (reach_Between.calls k a0 a1 a2 t394 _ A4.out).mono ?_); rintro e w6 ⟨rfl, hb⟩; refine ⟨_, rfl, ?_⟩; have n0_ := Aside0.mk (below_step (by repeat (first | (with_reducible first | exact HB.out | apply below_alloc | apply pw_below_drewN | apply below_drew1) | exact HB.out)) hb); clear HB; have HB := n0_; clear n0_; (try clear hb); (try clear hb2); (try clear hk); (try clear hi)))
  (try simp only [Act.put, List.setIfInBounds_toArray, List.set_cons_zero, List.set_cons_succ])
  go_cut [21] (fun v21 wc => ∃ (kq : Nat) (x21_4 : Bool), v21 = .bool x21_4 ∧ Aside0 (riverbanklaw05_ReachBlock.j0 kq a0 a1 a2 t394 x21_4 = some r) ∧ Aside0 (kq ≤ k) ∧ Aside0 (Below w.heap.size w wc))
  case first =>
    have H := HC5.out
    clear HC5
    by_cases c7 : (a0.size : Int) > 200
    · rw [if_pos c7] at H
      have c7b0 : decide (200 < (a0.size : Int)) = true := decide_eq_true c7
      have c7b1 : decide (200 < a0.size) = true := decide_eq_true (by omega)
      clear c7
      (first | rw [c7b0] | (simp only [i64_w, i32_w]; rw [c7b0]) | skip)
      have H' := Aside0.mk H
      clear H
      go_wp2
      go_meet
      case rel => exact ⟨_, (true), (by first | rfl | (simp; done) | (simp [*]; done)), H', ⟨by first | omega | exact Nat.le_refl _⟩, ⟨by repeat (first | (with_reducible first | exact HB.out | apply below_alloc | apply pw_below_drewN | apply below_drew1) | exact HB.out)⟩⟩
    · rw [if_neg c7] at H
      have c7b0 : decide (200 < (a0.size : Int)) = false := decide_eq_false c7
      have c7b1 : decide (200 < a0.size) = false := decide_eq_false (by omega)
      clear c7
      (first | rw [c7b0] | (simp only [i64_w, i32_w]; rw [c7b0]) | skip)
      have H' := Aside0.mk H
      clear H
      go_wp2
      go_meet
      case rel => exact ⟨_, (decide (t394 < 0)), (by first | rfl | (simp; done) | (simp [*]; done)), H', ⟨by first | omega | exact Nat.le_refl _⟩, ⟨by repeat (first | (with_reducible first | exact HB.out | apply below_alloc | apply pw_below_drewN | apply below_drew1) | exact HB.out)⟩⟩
  case rest =>
    clear HC5
    try clear c1
    try clear p2
    try clear c7
    try clear c7b0
    try clear c7b1
    obtain ⟨kq, x21_4, rfl, HA, HJ4, HB⟩ := hcut
    cases kq with
    | zero => exact absurd HA.out (by simp [riverbanklaw05_ReachBlock.j0])
    | succ kj4 =>
      have H := HA.out
      clear HA
      simp only [riverbanklaw05_ReachBlock.j0] at H
      by_cases c8 : x21_4 = true
      · subst c8
        have H1 : ((riverbanklaw05_live.f).bind fun t395 => (some t395)) = some r := by rw [if_pos rfl] at H; exact H
        clear H
        have H := H1
        clear H1
        replace H := Option.bind_eq_some_iff.mp H
        obtain ⟨t395, A90, H⟩ := H
        replace H : (some t395) = some r := H
        have A9 := Aside0.mk A90
        clear A90
        obtain rfl := Option.some.inj H
        go_wp2_with (first | ((with_reducible refine gate_callee (f := 13) rfl ?_); refine goesL_ (some 22) rfl rfl Try.func13 (by kernel_rfl) rfl #[] rfl (by (try simp only [List.map_toArray, List.map_cons, List.map_nil]); first | done | rfl | (simp only [List.length_drop, List.length_take]; rfl)) ?_; (with_reducible refine (riverbanklaw05_live.calls  t395 _ A9.out).mono ?_); rintro e w10 ⟨rfl, hb⟩; refine ⟨_, rfl, ?_⟩; have n0_ := Aside0.mk (below_step (by repeat (first | (with_reducible first | exact HB.out | apply below_alloc | apply pw_below_drewN | apply below_drew1) | exact HB.out)) hb); clear HB; have HB := n0_; clear n0_; (try clear hb); (try clear hb2); (try clear hk); (try clear hi)))
        go_ret
        exact ⟨by first | rfl | (simp [errW_none, errW_some] <;> rfl) | (simp [*, errW_none, errW_some] <;> rfl), by repeat (first | (with_reducible first | exact HB.out | apply below_alloc | apply pw_below_drewN | apply below_drew1) | exact HB.out)⟩
      · replace c8 := Bool.eq_false_iff.mpr c8
        subst c8
        have H1 : ((board_At.f a0 a2).bind fun t396 => (if t396 = 46 then (riverbanklaw05_ReachBlock.j1 kj4 a0 a1 a2 t394 t396 true) else ((board_Side.f t396).bind fun t397 => (riverbanklaw05_ReachBlock.j1 kj4 a0 a1 a2 t394 t396 (t397 == 1))))) = some r := by rw [if_neg (show ¬ (false = true) by decide)] at H; exact H
        clear H
        have H := H1
        clear H1
        replace H := Option.bind_eq_some_iff.mp H
        obtain ⟨t396, A110, H⟩ := H
        replace H : (if t396 = 46 then (riverbanklaw05_ReachBlock.j1 kj4 a0 a1 a2 t394 t396 true) else ((board_Side.f t396).bind fun t397 => (riverbanklaw05_ReachBlock.j1 kj4 a0 a1 a2 t394 t396 (t397 == 1)))) = some r := H
        have A11 := Aside0.mk A110
        clear A110
        have HC12 := Aside0.mk H
        clear H
        go_upto_region 5 with (first | ((with_reducible refine gate_callee (f := 23) rfl ?_); refine goesL_ (some 25) rfl rfl Try.func23 (by kernel_rfl) rfl #[.string a0, .int .i64 a2] rfl (by (try simp only [List.map_toArray, List.map_cons, List.map_nil]); first | done | rfl | (simp only [List.length_drop, List.length_take]; rfl)) ?_; (with_reducible refine (board_At.calls a0 a2 t396 _ A11.out).mono ?_); rintro e w13 ⟨rfl, hb⟩; refine ⟨_, rfl, ?_⟩; have n0_ := Aside0.mk (below_step (by repeat (first | (with_reducible first | exact HB.out | apply below_alloc | apply pw_below_drewN | apply below_drew1) | exact HB.out)) hb); clear HB; have HB := n0_; clear n0_; (try clear hb); (try clear hb2); (try clear hk); (try clear hi)))
        (try simp only [Act.put, List.setIfInBounds_toArray, List.set_cons_zero, List.set_cons_succ])
        go_cut [32] (fun v32 wc => ∃ (kq : Nat) (x32_11 : Bool), v32 = .bool x32_11 ∧ Aside0 (riverbanklaw05_ReachBlock.j1 kq a0 a1 a2 t394 t396 x32_11 = some r) ∧ Aside0 (kq ≤ kj4) ∧ Aside0 (Below w.heap.size w wc))
        case first =>
          have H := HC12.out
          clear HC12
          by_cases c14 : t396 = 46
          · rw [if_pos c14] at H
            have c14b0 : (t396 == 46) = true := beq_iff_eq.mpr c14
            have c14b1 : (t396 != 46) = false := bne_eq_false_iff_eq.mpr c14
            clear c14
            (first | rw [c14b0] | (simp only [i64_w, i32_w]; rw [c14b0]) | skip)
            have H' := Aside0.mk H
            clear H
            go_wp2
            go_meet
            case rel => exact ⟨_, (true), (by first | rfl | (simp; done) | (simp [*]; done)), H', ⟨by have := HJ4.out; first | omega | exact Nat.le_refl _⟩, ⟨by repeat (first | (with_reducible first | exact HB.out | apply below_alloc | apply pw_below_drewN | apply below_drew1) | exact HB.out)⟩⟩
          · rw [if_neg c14] at H
            have c14b0 : (t396 == 46) = false := beq_eq_false_iff_ne.mpr c14
            have c14b1 : (t396 != 46) = true := bne_iff_ne.mpr c14
            (first | rw [c14b0] | (simp only [i64_w, i32_w]; rw [c14b0]) | skip)
            replace H := Option.bind_eq_some_iff.mp H
            obtain ⟨t397, A150, H⟩ := H
            replace H : (riverbanklaw05_ReachBlock.j1 kj4 a0 a1 a2 t394 t396 (t397 == 1)) = some r := H
            have A15 := Aside0.mk A150
            clear A150
            have H' := Aside0.mk H
            clear H
            go_wp2_with (first | (go_at_call 22; (with_reducible refine (board_Side.calls t396 t397 _ A15.out).mono ?_); rintro e w' ⟨rfl, ⟨nd, rfl⟩⟩))
            go_meet
            case rel => exact ⟨_, ((t397 == 1)), (by first | rfl | (simp; done) | (simp [*]; done)), H', ⟨by have := HJ4.out; first | omega | exact Nat.le_refl _⟩, ⟨by repeat (first | (with_reducible first | exact HB.out | apply below_alloc | apply pw_below_drewN | apply below_drew1) | exact HB.out)⟩⟩
        case rest =>
          clear HC12
          try clear c1
          try clear c2
          try clear p2
          try clear c7
          try clear c7b0
          try clear c7b1
          try clear c8
          try clear c13
          try clear c14
          try clear c14b0
          try clear c14b1
          try clear p2
          obtain ⟨kq, x32_11, rfl, HA, HJ11, HB⟩ := hcut
          cases kq with
          | zero => exact absurd HA.out (by simp [riverbanklaw05_ReachBlock.j1])
          | succ kj11 =>
            have H := HA.out
            clear HA
            simp only [riverbanklaw05_ReachBlock.j1] at H
            by_cases c16 : x32_11 = true
            · subst c16
              have H1 : ((board_Put.f a0 a1 82).bind fun t398 => ((board_Put.f a0 a1 67).bind fun t399 => ((reach_Can.f kj11 t398 a1 a2).bind fun t400 => (if (t400 == (t394 == 0)) = true then ((reach_Can.f kj11 t399 a1 a2).bind fun t401 => (if t396 = 46 then (if t394 = 0 then (if (t401 == true) = true then ((riverbanklaw05_live.f).bind fun t402 => (some t402)) else (some false)) else (if (t401 == false) = true then ((riverbanklaw05_live.f).bind fun t403 => (some t403)) else (some false))) else (if (t401 == (t394 == 1)) = true then ((riverbanklaw05_live.f).bind fun t404 => (some t404)) else (some false)))) else (some false))))) = some r := by rw [if_pos rfl] at H; exact H
              clear H
              have H := H1
              clear H1
              replace H := Option.bind_eq_some_iff.mp H
              obtain ⟨t398, A170, H⟩ := H
              replace H : ((board_Put.f a0 a1 67).bind fun t399 => ((reach_Can.f kj11 t398 a1 a2).bind fun t400 => (if (t400 == (t394 == 0)) = true then ((reach_Can.f kj11 t399 a1 a2).bind fun t401 => (if t396 = 46 then (if t394 = 0 then (if (t401 == true) = true then ((riverbanklaw05_live.f).bind fun t402 => (some t402)) else (some false)) else (if (t401 == false) = true then ((riverbanklaw05_live.f).bind fun t403 => (some t403)) else (some false))) else (if (t401 == (t394 == 1)) = true then ((riverbanklaw05_live.f).bind fun t404 => (some t404)) else (some false)))) else (some false)))) = some r := H
              have A17 := Aside0.mk A170
              clear A170
              replace H := Option.bind_eq_some_iff.mp H
              obtain ⟨t399, A180, H⟩ := H
              replace H : ((reach_Can.f kj11 t398 a1 a2).bind fun t400 => (if (t400 == (t394 == 0)) = true then ((reach_Can.f kj11 t399 a1 a2).bind fun t401 => (if t396 = 46 then (if t394 = 0 then (if (t401 == true) = true then ((riverbanklaw05_live.f).bind fun t402 => (some t402)) else (some false)) else (if (t401 == false) = true then ((riverbanklaw05_live.f).bind fun t403 => (some t403)) else (some false))) else (if (t401 == (t394 == 1)) = true then ((riverbanklaw05_live.f).bind fun t404 => (some t404)) else (some false)))) else (some false))) = some r := H
              have A18 := Aside0.mk A180
              clear A180
              replace H := Option.bind_eq_some_iff.mp H
              obtain ⟨t400, A190, H⟩ := H
              replace H : (if (t400 == (t394 == 0)) = true then ((reach_Can.f kj11 t399 a1 a2).bind fun t401 => (if t396 = 46 then (if t394 = 0 then (if (t401 == true) = true then ((riverbanklaw05_live.f).bind fun t402 => (some t402)) else (some false)) else (if (t401 == false) = true then ((riverbanklaw05_live.f).bind fun t403 => (some t403)) else (some false))) else (if (t401 == (t394 == 1)) = true then ((riverbanklaw05_live.f).bind fun t404 => (some t404)) else (some false)))) else (some false)) = some r := H
              have A19 := Aside0.mk A190
              clear A190
              by_cases c20 : (t400 == (t394 == 0)) = true
              · rw [if_pos c20] at H
                have c20b0 : (t400 == (t394 == 0)) = true := c20
                (try (have c20b1 : decide (t400 = (t394 == 0)) = true := by simpa using c20))
                (try (have c20b2 : (t400 == (t394 == 0)) = true := by simpa using c20))
                clear c20
                replace H := Option.bind_eq_some_iff.mp H
                obtain ⟨t401, A210, H⟩ := H
                replace H : (if t396 = 46 then (if t394 = 0 then (if (t401 == true) = true then ((riverbanklaw05_live.f).bind fun t402 => (some t402)) else (some false)) else (if (t401 == false) = true then ((riverbanklaw05_live.f).bind fun t403 => (some t403)) else (some false))) else (if (t401 == (t394 == 1)) = true then ((riverbanklaw05_live.f).bind fun t404 => (some t404)) else (some false))) = some r := H
                have A21 := Aside0.mk A210
                clear A210
                by_cases c22 : t396 = 46
                · rw [if_pos c22] at H
                  have c22b0 : (t396 == 46) = true := beq_iff_eq.mpr c22
                  have c22b1 : (t396 != 46) = false := bne_eq_false_iff_eq.mpr c22
                  clear c22
                  by_cases c23 : t394 = 0
                  · rw [if_pos c23] at H
                    have c23b0 : (t394 == 0) = true := beq_iff_eq.mpr c23
                    (try (have c20z : t400 = true := by simpa [c23b0] using c20b0))
                    have c23b1 : (t394 != 0) = false := bne_eq_false_iff_eq.mpr c23
                    clear c23
                    by_cases c24 : (t401 == true) = true
                    · rw [if_pos c24] at H
                      have c24b0 : (t401 == true) = true := c24
                      (try (have c24b1 : decide (t401 = true) = true := by simpa using c24))
                      (try (have c24b2 : (t401 == true) = true := by simpa using c24))
                      clear c24
                      replace H := Option.bind_eq_some_iff.mp H
                      obtain ⟨t402, A250, H⟩ := H
                      replace H : (some t402) = some r := H
                      have A25 := Aside0.mk A250
                      clear A250
                      obtain rfl := Option.some.inj H
                      go_wp2_with (first | ((with_reducible refine gate_callee (f := 29) rfl ?_); refine goesL_ (some 35) rfl rfl Try.func29 (by kernel_rfl) rfl #[.string a0, .int .i64 a1, .int .u8 82] rfl (by (try simp only [List.map_toArray, List.map_cons, List.map_nil]); first | done | rfl | (simp only [List.length_drop, List.length_take]; rfl)) ?_; (with_reducible refine (board_Put.calls a0 a1 82 t398 _ A17.out).mono ?_); rintro e w26 ⟨rfl, hb⟩; refine ⟨_, rfl, ?_⟩; have n0_ := Aside0.mk (below_step (by repeat (first | (with_reducible first | exact HB.out | apply below_alloc | apply pw_below_drewN | apply below_drew1) | exact HB.out)) hb); clear HB; have HB := n0_; clear n0_; (try clear hb); (try clear hb2); (try clear hk); (try clear hi)) | ((with_reducible refine gate_callee (f := 29) rfl ?_); refine goesL_ (some 38) rfl rfl Try.func29 (by kernel_rfl) rfl #[.string a0, .int .i64 a1, .int .u8 67] rfl (by (try simp only [List.map_toArray, List.map_cons, List.map_nil]); first | done | rfl | (simp only [List.length_drop, List.length_take]; rfl)) ?_; (with_reducible refine (board_Put.calls a0 a1 67 t399 _ A18.out).mono ?_); rintro e w27 ⟨rfl, hb⟩; refine ⟨_, rfl, ?_⟩; have n0_ := Aside0.mk (below_step (by repeat (first | (with_reducible first | exact HB.out | apply below_alloc | apply pw_below_drewN | apply below_drew1) | exact HB.out)) hb); clear HB; have HB := n0_; clear n0_; (try clear hb); (try clear hb2); (try clear hk); (try clear hi)) | ((with_reducible refine gate_callee (f := 17) rfl ?_); refine goesL_ (some 42) rfl rfl Try.func17 (by kernel_rfl) rfl #[.string t398, .int .i64 a1, .int .i64 a2] rfl (by (try simp only [List.map_toArray, List.map_cons, List.map_nil]); first | done | rfl | (simp only [List.length_drop, List.length_take]; rfl)) ?_; (with_reducible refine (reach_Can.calls kj11 t398 a1 a2 t400 _ A19.out).mono ?_); rintro e w28 ⟨rfl, hb⟩; refine ⟨_, rfl, ?_⟩; have n0_ := Aside0.mk (below_step (by repeat (first | (with_reducible first | exact HB.out | apply below_alloc | apply pw_below_drewN | apply below_drew1) | exact HB.out)) hb); clear HB; have HB := n0_; clear n0_; (try clear hb); (try clear hb2); (try clear hk); (try clear hi)) | (go_at_call 17; (with_reducible refine (reach_Can.calls kj11 t399 a1 a2 t401 _ A21.out).mono ?_); rintro e w29 ⟨rfl, hb⟩; have n0_ := Aside0.mk (below_step (by repeat (first | (with_reducible first | exact HB.out | apply below_alloc | apply pw_below_drewN | apply below_drew1) | exact HB.out)) hb); clear HB; have HB := n0_; clear n0_; (try clear hb); (try clear hb2); (try clear hk); (try clear hi)) | (go_at_call 13; (with_reducible refine (riverbanklaw05_live.calls  t402 _ A25.out).mono ?_); rintro e w30 ⟨rfl, hb⟩; have n0_ := Aside0.mk (below_step (by repeat (first | (with_reducible first | exact HB.out | apply below_alloc | apply pw_below_drewN | apply below_drew1) | exact HB.out)) hb); clear HB; have HB := n0_; clear n0_; (try clear hb); (try clear hb2); (try clear hk); (try clear hi)))
                      go_ret
                      exact ⟨by first | rfl | (simp [errW_none, errW_some] <;> rfl) | (simp [*, errW_none, errW_some] <;> rfl), by repeat (first | (with_reducible first | exact HB.out | apply below_alloc | apply pw_below_drewN | apply below_drew1) | exact HB.out)⟩
                    · rw [if_neg c24] at H
                      have c24b0 : (t401 == true) = false := by simpa using c24
                      (try (have c24b1 : decide (t401 = true) = false := by simpa using c24))
                      (try (have c24b2 : (t401 == true) = false := by simpa using c24))
                      (try (have c24b3 : ¬ (t401 = true) := by simpa using c24))
                      clear c24
                      obtain rfl := Option.some.inj H
                      go_wp2_with (first | ((with_reducible refine gate_callee (f := 29) rfl ?_); refine goesL_ (some 35) rfl rfl Try.func29 (by kernel_rfl) rfl #[.string a0, .int .i64 a1, .int .u8 82] rfl (by (try simp only [List.map_toArray, List.map_cons, List.map_nil]); first | done | rfl | (simp only [List.length_drop, List.length_take]; rfl)) ?_; (with_reducible refine (board_Put.calls a0 a1 82 t398 _ A17.out).mono ?_); rintro e w31 ⟨rfl, hb⟩; refine ⟨_, rfl, ?_⟩; have n0_ := Aside0.mk (below_step (by repeat (first | (with_reducible first | exact HB.out | apply below_alloc | apply pw_below_drewN | apply below_drew1) | exact HB.out)) hb); clear HB; have HB := n0_; clear n0_; (try clear hb); (try clear hb2); (try clear hk); (try clear hi)) | ((with_reducible refine gate_callee (f := 29) rfl ?_); refine goesL_ (some 38) rfl rfl Try.func29 (by kernel_rfl) rfl #[.string a0, .int .i64 a1, .int .u8 67] rfl (by (try simp only [List.map_toArray, List.map_cons, List.map_nil]); first | done | rfl | (simp only [List.length_drop, List.length_take]; rfl)) ?_; (with_reducible refine (board_Put.calls a0 a1 67 t399 _ A18.out).mono ?_); rintro e w32 ⟨rfl, hb⟩; refine ⟨_, rfl, ?_⟩; have n0_ := Aside0.mk (below_step (by repeat (first | (with_reducible first | exact HB.out | apply below_alloc | apply pw_below_drewN | apply below_drew1) | exact HB.out)) hb); clear HB; have HB := n0_; clear n0_; (try clear hb); (try clear hb2); (try clear hk); (try clear hi)) | ((with_reducible refine gate_callee (f := 17) rfl ?_); refine goesL_ (some 42) rfl rfl Try.func17 (by kernel_rfl) rfl #[.string t398, .int .i64 a1, .int .i64 a2] rfl (by (try simp only [List.map_toArray, List.map_cons, List.map_nil]); first | done | rfl | (simp only [List.length_drop, List.length_take]; rfl)) ?_; (with_reducible refine (reach_Can.calls kj11 t398 a1 a2 t400 _ A19.out).mono ?_); rintro e w33 ⟨rfl, hb⟩; refine ⟨_, rfl, ?_⟩; have n0_ := Aside0.mk (below_step (by repeat (first | (with_reducible first | exact HB.out | apply below_alloc | apply pw_below_drewN | apply below_drew1) | exact HB.out)) hb); clear HB; have HB := n0_; clear n0_; (try clear hb); (try clear hb2); (try clear hk); (try clear hi)) | (go_at_call 17; (with_reducible refine (reach_Can.calls kj11 t399 a1 a2 t401 _ A21.out).mono ?_); rintro e w34 ⟨rfl, hb⟩; have n0_ := Aside0.mk (below_step (by repeat (first | (with_reducible first | exact HB.out | apply below_alloc | apply pw_below_drewN | apply below_drew1) | exact HB.out)) hb); clear HB; have HB := n0_; clear n0_; (try clear hb); (try clear hb2); (try clear hk); (try clear hi)))
                      go_ret
                      exact ⟨by first | rfl | (simp [errW_none, errW_some] <;> rfl) | (simp [*, errW_none, errW_some] <;> rfl), by repeat (first | (with_reducible first | exact HB.out | apply below_alloc | apply pw_below_drewN | apply below_drew1) | exact HB.out)⟩
                  · rw [if_neg c23] at H
                    have c23b0 : (t394 == 0) = false := beq_eq_false_iff_ne.mpr c23
                    (try (have c20z : t400 = false := by simpa [c23b0] using c20b0))
                    have c23b1 : (t394 != 0) = true := bne_iff_ne.mpr c23
                    by_cases c35 : (t401 == false) = true
                    · rw [if_pos c35] at H
                      have c35b0 : (t401 == false) = true := c35
                      (try (have c35b1 : decide (t401 = false) = true := by simpa using c35))
                      (try (have c35b2 : (t401 == false) = true := by simpa using c35))
                      clear c35
                      replace H := Option.bind_eq_some_iff.mp H
                      obtain ⟨t403, A360, H⟩ := H
                      replace H : (some t403) = some r := H
                      have A36 := Aside0.mk A360
                      clear A360
                      obtain rfl := Option.some.inj H
                      go_wp2_with (first | ((with_reducible refine gate_callee (f := 29) rfl ?_); refine goesL_ (some 35) rfl rfl Try.func29 (by kernel_rfl) rfl #[.string a0, .int .i64 a1, .int .u8 82] rfl (by (try simp only [List.map_toArray, List.map_cons, List.map_nil]); first | done | rfl | (simp only [List.length_drop, List.length_take]; rfl)) ?_; (with_reducible refine (board_Put.calls a0 a1 82 t398 _ A17.out).mono ?_); rintro e w37 ⟨rfl, hb⟩; refine ⟨_, rfl, ?_⟩; have n0_ := Aside0.mk (below_step (by repeat (first | (with_reducible first | exact HB.out | apply below_alloc | apply pw_below_drewN | apply below_drew1) | exact HB.out)) hb); clear HB; have HB := n0_; clear n0_; (try clear hb); (try clear hb2); (try clear hk); (try clear hi)) | ((with_reducible refine gate_callee (f := 29) rfl ?_); refine goesL_ (some 38) rfl rfl Try.func29 (by kernel_rfl) rfl #[.string a0, .int .i64 a1, .int .u8 67] rfl (by (try simp only [List.map_toArray, List.map_cons, List.map_nil]); first | done | rfl | (simp only [List.length_drop, List.length_take]; rfl)) ?_; (with_reducible refine (board_Put.calls a0 a1 67 t399 _ A18.out).mono ?_); rintro e w38 ⟨rfl, hb⟩; refine ⟨_, rfl, ?_⟩; have n0_ := Aside0.mk (below_step (by repeat (first | (with_reducible first | exact HB.out | apply below_alloc | apply pw_below_drewN | apply below_drew1) | exact HB.out)) hb); clear HB; have HB := n0_; clear n0_; (try clear hb); (try clear hb2); (try clear hk); (try clear hi)) | ((with_reducible refine gate_callee (f := 17) rfl ?_); refine goesL_ (some 42) rfl rfl Try.func17 (by kernel_rfl) rfl #[.string t398, .int .i64 a1, .int .i64 a2] rfl (by (try simp only [List.map_toArray, List.map_cons, List.map_nil]); first | done | rfl | (simp only [List.length_drop, List.length_take]; rfl)) ?_; (with_reducible refine (reach_Can.calls kj11 t398 a1 a2 t400 _ A19.out).mono ?_); rintro e w39 ⟨rfl, hb⟩; refine ⟨_, rfl, ?_⟩; have n0_ := Aside0.mk (below_step (by repeat (first | (with_reducible first | exact HB.out | apply below_alloc | apply pw_below_drewN | apply below_drew1) | exact HB.out)) hb); clear HB; have HB := n0_; clear n0_; (try clear hb); (try clear hb2); (try clear hk); (try clear hi)) | (go_at_call 17; (with_reducible refine (reach_Can.calls kj11 t399 a1 a2 t401 _ A21.out).mono ?_); rintro e w40 ⟨rfl, hb⟩; have n0_ := Aside0.mk (below_step (by repeat (first | (with_reducible first | exact HB.out | apply below_alloc | apply pw_below_drewN | apply below_drew1) | exact HB.out)) hb); clear HB; have HB := n0_; clear n0_; (try clear hb); (try clear hb2); (try clear hk); (try clear hi)) | (go_at_call 13; (with_reducible refine (riverbanklaw05_live.calls  t403 _ A36.out).mono ?_); rintro e w41 ⟨rfl, hb⟩; have n0_ := Aside0.mk (below_step (by repeat (first | (with_reducible first | exact HB.out | apply below_alloc | apply pw_below_drewN | apply below_drew1) | exact HB.out)) hb); clear HB; have HB := n0_; clear n0_; (try clear hb); (try clear hb2); (try clear hk); (try clear hi)))
                      go_ret
                      exact ⟨by first | rfl | (simp [errW_none, errW_some] <;> rfl) | (simp [*, errW_none, errW_some] <;> rfl), by repeat (first | (with_reducible first | exact HB.out | apply below_alloc | apply pw_below_drewN | apply below_drew1) | exact HB.out)⟩
                    · rw [if_neg c35] at H
                      have c35b0 : (t401 == false) = false := by simpa using c35
                      (try (have c35b1 : decide (t401 = false) = false := by simpa using c35))
                      (try (have c35b2 : (t401 == false) = false := by simpa using c35))
                      (try (have c35b3 : ¬ (t401 = false) := by simpa using c35))
                      clear c35
                      obtain rfl := Option.some.inj H
                      go_wp2_with (first | ((with_reducible refine gate_callee (f := 29) rfl ?_); refine goesL_ (some 35) rfl rfl Try.func29 (by kernel_rfl) rfl #[.string a0, .int .i64 a1, .int .u8 82] rfl (by (try simp only [List.map_toArray, List.map_cons, List.map_nil]); first | done | rfl | (simp only [List.length_drop, List.length_take]; rfl)) ?_; (with_reducible refine (board_Put.calls a0 a1 82 t398 _ A17.out).mono ?_); rintro e w42 ⟨rfl, hb⟩; refine ⟨_, rfl, ?_⟩; have n0_ := Aside0.mk (below_step (by repeat (first | (with_reducible first | exact HB.out | apply below_alloc | apply pw_below_drewN | apply below_drew1) | exact HB.out)) hb); clear HB; have HB := n0_; clear n0_; (try clear hb); (try clear hb2); (try clear hk); (try clear hi)) | ((with_reducible refine gate_callee (f := 29) rfl ?_); refine goesL_ (some 38) rfl rfl Try.func29 (by kernel_rfl) rfl #[.string a0, .int .i64 a1, .int .u8 67] rfl (by (try simp only [List.map_toArray, List.map_cons, List.map_nil]); first | done | rfl | (simp only [List.length_drop, List.length_take]; rfl)) ?_; (with_reducible refine (board_Put.calls a0 a1 67 t399 _ A18.out).mono ?_); rintro e w43 ⟨rfl, hb⟩; refine ⟨_, rfl, ?_⟩; have n0_ := Aside0.mk (below_step (by repeat (first | (with_reducible first | exact HB.out | apply below_alloc | apply pw_below_drewN | apply below_drew1) | exact HB.out)) hb); clear HB; have HB := n0_; clear n0_; (try clear hb); (try clear hb2); (try clear hk); (try clear hi)) | ((with_reducible refine gate_callee (f := 17) rfl ?_); refine goesL_ (some 42) rfl rfl Try.func17 (by kernel_rfl) rfl #[.string t398, .int .i64 a1, .int .i64 a2] rfl (by (try simp only [List.map_toArray, List.map_cons, List.map_nil]); first | done | rfl | (simp only [List.length_drop, List.length_take]; rfl)) ?_; (with_reducible refine (reach_Can.calls kj11 t398 a1 a2 t400 _ A19.out).mono ?_); rintro e w44 ⟨rfl, hb⟩; refine ⟨_, rfl, ?_⟩; have n0_ := Aside0.mk (below_step (by repeat (first | (with_reducible first | exact HB.out | apply below_alloc | apply pw_below_drewN | apply below_drew1) | exact HB.out)) hb); clear HB; have HB := n0_; clear n0_; (try clear hb); (try clear hb2); (try clear hk); (try clear hi)) | (go_at_call 17; (with_reducible refine (reach_Can.calls kj11 t399 a1 a2 t401 _ A21.out).mono ?_); rintro e w45 ⟨rfl, hb⟩; have n0_ := Aside0.mk (below_step (by repeat (first | (with_reducible first | exact HB.out | apply below_alloc | apply pw_below_drewN | apply below_drew1) | exact HB.out)) hb); clear HB; have HB := n0_; clear n0_; (try clear hb); (try clear hb2); (try clear hk); (try clear hi)))
                      go_ret
                      exact ⟨by first | rfl | (simp [errW_none, errW_some] <;> rfl) | (simp [*, errW_none, errW_some] <;> rfl), by repeat (first | (with_reducible first | exact HB.out | apply below_alloc | apply pw_below_drewN | apply below_drew1) | exact HB.out)⟩
                · rw [if_neg c22] at H
                  have c22b0 : (t396 == 46) = false := beq_eq_false_iff_ne.mpr c22
                  have c22b1 : (t396 != 46) = true := bne_iff_ne.mpr c22
                  by_cases c46 : (t401 == (t394 == 1)) = true
                  · rw [if_pos c46] at H
                    have c46b0 : (t401 == (t394 == 1)) = true := c46
                    (try (have c46b1 : decide (t401 = (t394 == 1)) = true := by simpa using c46))
                    (try (have c46b2 : (t401 == (t394 == 1)) = true := by simpa using c46))
                    clear c46
                    replace H := Option.bind_eq_some_iff.mp H
                    obtain ⟨t404, A470, H⟩ := H
                    replace H : (some t404) = some r := H
                    have A47 := Aside0.mk A470
                    clear A470
                    obtain rfl := Option.some.inj H
                    go_wp2_with (first | ((with_reducible refine gate_callee (f := 29) rfl ?_); refine goesL_ (some 35) rfl rfl Try.func29 (by kernel_rfl) rfl #[.string a0, .int .i64 a1, .int .u8 82] rfl (by (try simp only [List.map_toArray, List.map_cons, List.map_nil]); first | done | rfl | (simp only [List.length_drop, List.length_take]; rfl)) ?_; (with_reducible refine (board_Put.calls a0 a1 82 t398 _ A17.out).mono ?_); rintro e w48 ⟨rfl, hb⟩; refine ⟨_, rfl, ?_⟩; have n0_ := Aside0.mk (below_step (by repeat (first | (with_reducible first | exact HB.out | apply below_alloc | apply pw_below_drewN | apply below_drew1) | exact HB.out)) hb); clear HB; have HB := n0_; clear n0_; (try clear hb); (try clear hb2); (try clear hk); (try clear hi)) | ((with_reducible refine gate_callee (f := 29) rfl ?_); refine goesL_ (some 38) rfl rfl Try.func29 (by kernel_rfl) rfl #[.string a0, .int .i64 a1, .int .u8 67] rfl (by (try simp only [List.map_toArray, List.map_cons, List.map_nil]); first | done | rfl | (simp only [List.length_drop, List.length_take]; rfl)) ?_; (with_reducible refine (board_Put.calls a0 a1 67 t399 _ A18.out).mono ?_); rintro e w49 ⟨rfl, hb⟩; refine ⟨_, rfl, ?_⟩; have n0_ := Aside0.mk (below_step (by repeat (first | (with_reducible first | exact HB.out | apply below_alloc | apply pw_below_drewN | apply below_drew1) | exact HB.out)) hb); clear HB; have HB := n0_; clear n0_; (try clear hb); (try clear hb2); (try clear hk); (try clear hi)) | ((with_reducible refine gate_callee (f := 17) rfl ?_); refine goesL_ (some 42) rfl rfl Try.func17 (by kernel_rfl) rfl #[.string t398, .int .i64 a1, .int .i64 a2] rfl (by (try simp only [List.map_toArray, List.map_cons, List.map_nil]); first | done | rfl | (simp only [List.length_drop, List.length_take]; rfl)) ?_; (with_reducible refine (reach_Can.calls kj11 t398 a1 a2 t400 _ A19.out).mono ?_); rintro e w50 ⟨rfl, hb⟩; refine ⟨_, rfl, ?_⟩; have n0_ := Aside0.mk (below_step (by repeat (first | (with_reducible first | exact HB.out | apply below_alloc | apply pw_below_drewN | apply below_drew1) | exact HB.out)) hb); clear HB; have HB := n0_; clear n0_; (try clear hb); (try clear hb2); (try clear hk); (try clear hi)) | (go_at_call 17; (with_reducible refine (reach_Can.calls kj11 t399 a1 a2 t401 _ A21.out).mono ?_); rintro e w51 ⟨rfl, hb⟩; have n0_ := Aside0.mk (below_step (by repeat (first | (with_reducible first | exact HB.out | apply below_alloc | apply pw_below_drewN | apply below_drew1) | exact HB.out)) hb); clear HB; have HB := n0_; clear n0_; (try clear hb); (try clear hb2); (try clear hk); (try clear hi)) | (go_at_call 13; (with_reducible refine (riverbanklaw05_live.calls  t404 _ A47.out).mono ?_); rintro e w52 ⟨rfl, hb⟩; have n0_ := Aside0.mk (below_step (by repeat (first | (with_reducible first | exact HB.out | apply below_alloc | apply pw_below_drewN | apply below_drew1) | exact HB.out)) hb); clear HB; have HB := n0_; clear n0_; (try clear hb); (try clear hb2); (try clear hk); (try clear hi)))
                    go_ret
                    exact ⟨by first | rfl | (simp [errW_none, errW_some] <;> rfl) | (simp [*, errW_none, errW_some] <;> rfl), by repeat (first | (with_reducible first | exact HB.out | apply below_alloc | apply pw_below_drewN | apply below_drew1) | exact HB.out)⟩
                  · rw [if_neg c46] at H
                    have c46b0 : (t401 == (t394 == 1)) = false := by simpa using c46
                    (try (have c46b1 : decide (t401 = (t394 == 1)) = false := by simpa using c46))
                    (try (have c46b2 : (t401 == (t394 == 1)) = false := by simpa using c46))
                    (try (have c46b3 : ¬ (t401 = (t394 == 1)) := by simpa using c46))
                    clear c46
                    obtain rfl := Option.some.inj H
                    go_wp2_with (first | ((with_reducible refine gate_callee (f := 29) rfl ?_); refine goesL_ (some 35) rfl rfl Try.func29 (by kernel_rfl) rfl #[.string a0, .int .i64 a1, .int .u8 82] rfl (by (try simp only [List.map_toArray, List.map_cons, List.map_nil]); first | done | rfl | (simp only [List.length_drop, List.length_take]; rfl)) ?_; (with_reducible refine (board_Put.calls a0 a1 82 t398 _ A17.out).mono ?_); rintro e w53 ⟨rfl, hb⟩; refine ⟨_, rfl, ?_⟩; have n0_ := Aside0.mk (below_step (by repeat (first | (with_reducible first | exact HB.out | apply below_alloc | apply pw_below_drewN | apply below_drew1) | exact HB.out)) hb); clear HB; have HB := n0_; clear n0_; (try clear hb); (try clear hb2); (try clear hk); (try clear hi)) | ((with_reducible refine gate_callee (f := 29) rfl ?_); refine goesL_ (some 38) rfl rfl Try.func29 (by kernel_rfl) rfl #[.string a0, .int .i64 a1, .int .u8 67] rfl (by (try simp only [List.map_toArray, List.map_cons, List.map_nil]); first | done | rfl | (simp only [List.length_drop, List.length_take]; rfl)) ?_; (with_reducible refine (board_Put.calls a0 a1 67 t399 _ A18.out).mono ?_); rintro e w54 ⟨rfl, hb⟩; refine ⟨_, rfl, ?_⟩; have n0_ := Aside0.mk (below_step (by repeat (first | (with_reducible first | exact HB.out | apply below_alloc | apply pw_below_drewN | apply below_drew1) | exact HB.out)) hb); clear HB; have HB := n0_; clear n0_; (try clear hb); (try clear hb2); (try clear hk); (try clear hi)) | ((with_reducible refine gate_callee (f := 17) rfl ?_); refine goesL_ (some 42) rfl rfl Try.func17 (by kernel_rfl) rfl #[.string t398, .int .i64 a1, .int .i64 a2] rfl (by (try simp only [List.map_toArray, List.map_cons, List.map_nil]); first | done | rfl | (simp only [List.length_drop, List.length_take]; rfl)) ?_; (with_reducible refine (reach_Can.calls kj11 t398 a1 a2 t400 _ A19.out).mono ?_); rintro e w55 ⟨rfl, hb⟩; refine ⟨_, rfl, ?_⟩; have n0_ := Aside0.mk (below_step (by repeat (first | (with_reducible first | exact HB.out | apply below_alloc | apply pw_below_drewN | apply below_drew1) | exact HB.out)) hb); clear HB; have HB := n0_; clear n0_; (try clear hb); (try clear hb2); (try clear hk); (try clear hi)) | (go_at_call 17; (with_reducible refine (reach_Can.calls kj11 t399 a1 a2 t401 _ A21.out).mono ?_); rintro e w56 ⟨rfl, hb⟩; have n0_ := Aside0.mk (below_step (by repeat (first | (with_reducible first | exact HB.out | apply below_alloc | apply pw_below_drewN | apply below_drew1) | exact HB.out)) hb); clear HB; have HB := n0_; clear n0_; (try clear hb); (try clear hb2); (try clear hk); (try clear hi)))
                    go_ret
                    exact ⟨by first | rfl | (simp [errW_none, errW_some] <;> rfl) | (simp [*, errW_none, errW_some] <;> rfl), by repeat (first | (with_reducible first | exact HB.out | apply below_alloc | apply pw_below_drewN | apply below_drew1) | exact HB.out)⟩
              · rw [if_neg c20] at H
                have c20b0 : (t400 == (t394 == 0)) = false := by simpa using c20
                (try (have c20b1 : decide (t400 = (t394 == 0)) = false := by simpa using c20))
                (try (have c20b2 : (t400 == (t394 == 0)) = false := by simpa using c20))
                (try (have c20b3 : ¬ (t400 = (t394 == 0)) := by simpa using c20))
                clear c20
                obtain rfl := Option.some.inj H
                go_wp2_with (first | ((with_reducible refine gate_callee (f := 29) rfl ?_); refine goesL_ (some 35) rfl rfl Try.func29 (by kernel_rfl) rfl #[.string a0, .int .i64 a1, .int .u8 82] rfl (by (try simp only [List.map_toArray, List.map_cons, List.map_nil]); first | done | rfl | (simp only [List.length_drop, List.length_take]; rfl)) ?_; (with_reducible refine (board_Put.calls a0 a1 82 t398 _ A17.out).mono ?_); rintro e w57 ⟨rfl, hb⟩; refine ⟨_, rfl, ?_⟩; have n0_ := Aside0.mk (below_step (by repeat (first | (with_reducible first | exact HB.out | apply below_alloc | apply pw_below_drewN | apply below_drew1) | exact HB.out)) hb); clear HB; have HB := n0_; clear n0_; (try clear hb); (try clear hb2); (try clear hk); (try clear hi)) | ((with_reducible refine gate_callee (f := 29) rfl ?_); refine goesL_ (some 38) rfl rfl Try.func29 (by kernel_rfl) rfl #[.string a0, .int .i64 a1, .int .u8 67] rfl (by (try simp only [List.map_toArray, List.map_cons, List.map_nil]); first | done | rfl | (simp only [List.length_drop, List.length_take]; rfl)) ?_; (with_reducible refine (board_Put.calls a0 a1 67 t399 _ A18.out).mono ?_); rintro e w58 ⟨rfl, hb⟩; refine ⟨_, rfl, ?_⟩; have n0_ := Aside0.mk (below_step (by repeat (first | (with_reducible first | exact HB.out | apply below_alloc | apply pw_below_drewN | apply below_drew1) | exact HB.out)) hb); clear HB; have HB := n0_; clear n0_; (try clear hb); (try clear hb2); (try clear hk); (try clear hi)) | ((with_reducible refine gate_callee (f := 17) rfl ?_); refine goesL_ (some 42) rfl rfl Try.func17 (by kernel_rfl) rfl #[.string t398, .int .i64 a1, .int .i64 a2] rfl (by (try simp only [List.map_toArray, List.map_cons, List.map_nil]); first | done | rfl | (simp only [List.length_drop, List.length_take]; rfl)) ?_; (with_reducible refine (reach_Can.calls kj11 t398 a1 a2 t400 _ A19.out).mono ?_); rintro e w59 ⟨rfl, hb⟩; refine ⟨_, rfl, ?_⟩; have n0_ := Aside0.mk (below_step (by repeat (first | (with_reducible first | exact HB.out | apply below_alloc | apply pw_below_drewN | apply below_drew1) | exact HB.out)) hb); clear HB; have HB := n0_; clear n0_; (try clear hb); (try clear hb2); (try clear hk); (try clear hi)))
                go_ret
                exact ⟨by first | rfl | (simp [errW_none, errW_some] <;> rfl) | (simp [*, errW_none, errW_some] <;> rfl), by repeat (first | (with_reducible first | exact HB.out | apply below_alloc | apply pw_below_drewN | apply below_drew1) | exact HB.out)⟩
            · replace c16 := Bool.eq_false_iff.mpr c16
              subst c16
              have H1 : ((board_Put.f a0 a1 82).bind fun t405 => ((reach_Can.f kj11 t405 a1 a2).bind fun t406 => (if t406 = true then (some false) else ((riverbanklaw05_live.f).bind fun t407 => (some t407))))) = some r := by rw [if_neg (show ¬ (false = true) by decide)] at H; exact H
              clear H
              have H := H1
              clear H1
              replace H := Option.bind_eq_some_iff.mp H
              obtain ⟨t405, A600, H⟩ := H
              replace H : ((reach_Can.f kj11 t405 a1 a2).bind fun t406 => (if t406 = true then (some false) else ((riverbanklaw05_live.f).bind fun t407 => (some t407)))) = some r := H
              have A60 := Aside0.mk A600
              clear A600
              replace H := Option.bind_eq_some_iff.mp H
              obtain ⟨t406, A610, H⟩ := H
              replace H : (if t406 = true then (some false) else ((riverbanklaw05_live.f).bind fun t407 => (some t407))) = some r := H
              have A61 := Aside0.mk A610
              clear A610
              by_cases c62 : t406 = true
              · subst c62
                have H1 : (some false) = some r := by rw [if_pos rfl] at H; exact H
                clear H
                have H := H1
                clear H1
                obtain rfl := Option.some.inj H
                go_wp2_with (first | ((with_reducible refine gate_callee (f := 29) rfl ?_); refine goesL_ (some 72) rfl rfl Try.func29 (by kernel_rfl) rfl #[.string a0, .int .i64 a1, .int .u8 82] rfl (by (try simp only [List.map_toArray, List.map_cons, List.map_nil]); first | done | rfl | (simp only [List.length_drop, List.length_take]; rfl)) ?_; (with_reducible refine (board_Put.calls a0 a1 82 t405 _ A60.out).mono ?_); rintro e w63 ⟨rfl, hb⟩; refine ⟨_, rfl, ?_⟩; have n0_ := Aside0.mk (below_step (by repeat (first | (with_reducible first | exact HB.out | apply below_alloc | apply pw_below_drewN | apply below_drew1) | exact HB.out)) hb); clear HB; have HB := n0_; clear n0_; (try clear hb); (try clear hb2); (try clear hk); (try clear hi)) | ((with_reducible refine gate_callee (f := 17) rfl ?_); refine goesL_ (some 75) rfl rfl Try.func17 (by kernel_rfl) rfl #[.string t405, .int .i64 a1, .int .i64 a2] rfl (by (try simp only [List.map_toArray, List.map_cons, List.map_nil]); first | done | rfl | (simp only [List.length_drop, List.length_take]; rfl)) ?_; (with_reducible refine (reach_Can.calls kj11 t405 a1 a2 true _ A61.out).mono ?_); rintro e w64 ⟨rfl, hb⟩; refine ⟨_, rfl, ?_⟩; have n0_ := Aside0.mk (below_step (by repeat (first | (with_reducible first | exact HB.out | apply below_alloc | apply pw_below_drewN | apply below_drew1) | exact HB.out)) hb); clear HB; have HB := n0_; clear n0_; (try clear hb); (try clear hb2); (try clear hk); (try clear hi)))
                go_ret
                exact ⟨by first | rfl | (simp [errW_none, errW_some] <;> rfl) | (simp [*, errW_none, errW_some] <;> rfl), by repeat (first | (with_reducible first | exact HB.out | apply below_alloc | apply pw_below_drewN | apply below_drew1) | exact HB.out)⟩
              · replace c62 := Bool.eq_false_iff.mpr c62
                subst c62
                have H1 : ((riverbanklaw05_live.f).bind fun t407 => (some t407)) = some r := by rw [if_neg (show ¬ (false = true) by decide)] at H; exact H
                clear H
                have H := H1
                clear H1
                replace H := Option.bind_eq_some_iff.mp H
                obtain ⟨t407, A650, H⟩ := H
                replace H : (some t407) = some r := H
                have A65 := Aside0.mk A650
                clear A650
                obtain rfl := Option.some.inj H
                go_wp2_with (first | ((with_reducible refine gate_callee (f := 29) rfl ?_); refine goesL_ (some 72) rfl rfl Try.func29 (by kernel_rfl) rfl #[.string a0, .int .i64 a1, .int .u8 82] rfl (by (try simp only [List.map_toArray, List.map_cons, List.map_nil]); first | done | rfl | (simp only [List.length_drop, List.length_take]; rfl)) ?_; (with_reducible refine (board_Put.calls a0 a1 82 t405 _ A60.out).mono ?_); rintro e w66 ⟨rfl, hb⟩; refine ⟨_, rfl, ?_⟩; have n0_ := Aside0.mk (below_step (by repeat (first | (with_reducible first | exact HB.out | apply below_alloc | apply pw_below_drewN | apply below_drew1) | exact HB.out)) hb); clear HB; have HB := n0_; clear n0_; (try clear hb); (try clear hb2); (try clear hk); (try clear hi)) | ((with_reducible refine gate_callee (f := 17) rfl ?_); refine goesL_ (some 75) rfl rfl Try.func17 (by kernel_rfl) rfl #[.string t405, .int .i64 a1, .int .i64 a2] rfl (by (try simp only [List.map_toArray, List.map_cons, List.map_nil]); first | done | rfl | (simp only [List.length_drop, List.length_take]; rfl)) ?_; (with_reducible refine (reach_Can.calls kj11 t405 a1 a2 false _ A61.out).mono ?_); rintro e w67 ⟨rfl, hb⟩; refine ⟨_, rfl, ?_⟩; have n0_ := Aside0.mk (below_step (by repeat (first | (with_reducible first | exact HB.out | apply below_alloc | apply pw_below_drewN | apply below_drew1) | exact HB.out)) hb); clear HB; have HB := n0_; clear n0_; (try clear hb); (try clear hb2); (try clear hk); (try clear hi)) | (go_at_call 13; (with_reducible refine (riverbanklaw05_live.calls  t407 _ A65.out).mono ?_); rintro e w68 ⟨rfl, hb⟩; have n0_ := Aside0.mk (below_step (by repeat (first | (with_reducible first | exact HB.out | apply below_alloc | apply pw_below_drewN | apply below_drew1) | exact HB.out)) hb); clear HB; have HB := n0_; clear n0_; (try clear hb); (try clear hb2); (try clear hk); (try clear hi)))
                go_ret
                exact ⟨by first | rfl | (simp [errW_none, errW_some] <;> rfl) | (simp [*, errW_none, errW_some] <;> rfl), by repeat (first | (with_reducible first | exact HB.out | apply below_alloc | apply pw_below_drewN | apply below_drew1) | exact HB.out)⟩

/-- THE ONE PURE STATEMENT of riverbanklaw05_ReachBlock: yours. -/
def riverbanklaw05_ReachBlock.Pure : Prop := ∀ (a0 : ByteArray) (a1 : Int) (a2 : Int), a0.size ≤ 140737488351232 → (Lit.int .i64 a1).wf = true → (Lit.int .i64 a2).wf = true → ∃ k, riverbanklaw05_ReachBlock.f k a0 a1 a2 = some true
theorem riverbanklaw05_ReachBlock.walk (P : riverbanklaw05_ReachBlock.Pure) (a0 : ByteArray) (a1 : Int) (a2 : Int) (w : World) (w0 : a0.size ≤ 140737488351232) (w1 : (Lit.int .i64 a1).wf = true) (w2 : (Lit.int .i64 a2).wf = true) :
    Calls Try.prog 8 #[.string a0, .int .i64 a1, .int .i64 a2] w fun e w' => e = .returned (.bool true) ∧ Below w.heap.size w w' := by
  obtain ⟨k, h⟩ := P a0 a1 a2 w0 w1 w2
  refine (riverbanklaw05_ReachBlock.calls k a0 a1 a2 true w h).mono ?_
  rintro e w' ⟨rfl, hd⟩
  exact ⟨rfl, hd⟩

end Go.Proofs.Ytcanbidenhcohaa.P

/- ReachBlock: for every text and all squares a, b: a red chariot put on a reaches b where nothing stands between (and nothing red on b); a red cannon: an empty b where nothing stands between, a black piece where just one does. No condition of ours. -/
namespace Go.Proofs.Ytcanbidenhcohaa.Pure
open Go.RowKit Go.Proofs.Ytcanbidenhcohaa.P Go.Proofs.YtcanbidenhcohaaW.PrintWords Go.Proofs.YtcanbidenhcohaaW.PrintLast
open Sp
set_option linter.unusedVariables false
theorem ReachBlock : riverbanklaw05_ReachBlock.Pure := by
  intro s a b _ _ _
  refine ⟨302, ?_⟩
  have hlive : ∀ k m, riverbanklaw05_ReachBlock.j0 (k + 1) s a b m true = some true := by intro k m; simp only [riverbanklaw05_ReachBlock.j0]; rw [if_pos trivial]; rfl
  unfold riverbanklaw05_ReachBlock.f
  rw [between_f s a b 302 (by omega)]
  simp only [Option.bind_some]
  by_cases h : (s.size : Int) > 200
  · rw [if_pos h]; exact hlive 301 _
  rw [if_neg h]
  by_cases hneg : betwS s a b < 0
  · rw [decide_eq_true hneg]; exact hlive 301 _
  rw [decide_eq_false hneg]
  unfold betwS at hneg ⊢
  by_cases hc : isBoard s = true ∧ 0 ≤ a ∧ a < 90 ∧ 0 ≤ b ∧ b < 90
  case neg => rw [if_neg hc] at hneg; omega
  rw [if_pos hc] at hneg ⊢
  obtain ⟨hs, a0, a9, b0, b9⟩ := hc
  obtain ⟨x, rfl⟩ : ∃ x : Nat, a = (x : Int) := ⟨a.toNat, by omega⟩
  obtain ⟨y, rfl⟩ : ∃ y : Nat, b = (y : Int) := ⟨b.toNat, by omega⟩
  have hx : x < 90 := by omega
  have hy : y < 90 := by omega
  rw [Int.toNat_natCast, Int.toNat_natCast] at hneg ⊢
  have hab := betw_line x y (cel s) (by omega)
  have hl : cel s y ∈ letters := board_letter hs hy
  generalize hm : betwN (cel s) x y = m at hneg ⊢
  have hch : canS (putS s x 82) x y = (sideN (cel s y) != 0 && m == 0) := by
    obtain ⟨p1, p2⟩ := putS_is hs (a := x) (x := 82) hx (by decide)
    rw [canS_nat p1 hx hy, fast_congr (d := putC (cel s) x 82) p2 hx hy (fun n hn => board_letter p1 (n := n) hn), fast_chariot _ hx hy hl hab, hm]
  have hcn : canS (putS s x 67) x y = (sideN (cel s y) != 0 && ((m == 0 && cel s y == 46) || (m == 1 && cel s y != 46))) := by
    obtain ⟨p1, p2⟩ := putS_is hs (a := x) (x := 67) hx (by decide)
    rw [canS_nat p1 hx hy, fast_congr (d := putC (cel s) x 67) p2 hx hy (fun n hn => board_letter p1 (n := n) hn), fast_cannon _ hx hy hl hab, hm]
  have p82 : board_Put.f s x 82 = some (putS s x 82) := put_f s x 82 (by omega)
  have p67 : board_Put.f s x 67 = some (putS s x 67) := put_f s x 67 (by omega)
  have c82 : ∀ k, 100 ≤ k → reach_Can.f k (putS s x 82) x y = some (sideN (cel s y) != 0 && m == 0) := fun k hk => by rw [can_f _ _ _ k hk, hch]
  have c67 : ∀ k, 100 ≤ k → reach_Can.f k (putS s x 67) x y = some (sideN (cel s y) != 0 && ((m == 0 && cel s y == 46) || (m == 1 && cel s y != 46))) := fun k hk => by rw [can_f _ _ _ k hk, hcn]
  clear hch hcn
  simp only [riverbanklaw05_ReachBlock.j0]
  rw [if_neg (by simp), at_nat hs hy]
  simp only [Option.bind_some]
  have hlv : riverbanklaw05_live.f = some true := rfl
  rcases letter_side _ hl with ⟨e1, e2⟩ | ⟨e1, e2⟩ | ⟨e1, e2⟩
  · rw [if_pos (by omega)]
    simp only [riverbanklaw05_ReachBlock.j1]
    rw [if_pos trivial, p82, p67]
    simp only [Option.bind_some]
    rw [c82 300 (by omega), c67 300 (by omega)]
    simp only [Option.bind_some]
    rw [e1, show sideN 46 = -1 from rfl, hlv]
    by_cases m0 : m = 0
    · subst m0; simp
    · simp [m0]
  · rw [if_neg (by omega), side_f _ (cel_lt s y)]
    simp only [Option.bind_some]
    rw [e2]
    simp only [riverbanklaw05_ReachBlock.j1]
    rw [if_neg (by simp), p82]
    simp only [Option.bind_some]
    rw [c82 300 (by omega)]
    simp only [Option.bind_some]
    rw [e2, hlv]
    simp
  · rw [if_neg (by omega), side_f _ (cel_lt s y)]
    simp only [Option.bind_some]
    rw [e2]
    simp only [riverbanklaw05_ReachBlock.j1]
    rw [if_pos (by simp), p82, p67]
    simp only [Option.bind_some]
    rw [c82 300 (by omega), c67 300 (by omega)]
    simp only [Option.bind_some]
    rw [e2, hlv]
    have e1' : ¬ ((cel s y : Nat) : Int) = 46 := by omega
    rw [if_neg e1']
    by_cases m0 : m = 0
    · subst m0; simp [e1]
    · by_cases m1 : m = 1
      · subst m1; simp [e1]
      · have b0 : (m == 0) = false := beq_eq_false_iff_ne.2 m0
        have b1 : (m == 1) = false := beq_eq_false_iff_ne.2 m1
        simp [b0, b1]
end Go.Proofs.Ytcanbidenhcohaa.Pure

/- Walks of Go functions, one Lean function and one contract for each, written by a program of this session out of the translation. -/
namespace Go.Proofs.Ytcanbidenhcohaa.reachBlock
open Go.ChangeShapes Go.WideShapes Go.ChangeAt Go.RowKit
open Go.ChangeMaps (open_string shut_string)
set_option linter.unusedVariables false
theorem own : ownKnob Try.prog.godebug = none := by kernel_rfl
set_option maxRecDepth 100000 in
theorem lifted (os : Os) (started : os.Started) (H : Type) (enc : TypeId × Value → H) :
    ReturnsInHanded {} Try.checked os 8 .any (Rows.reachBlockSpec.pre6 enc Try.prog Try.f8 Rows.reachBlockRow.domain false) (Rows.reachBlockSpec.post enc Try.prog Try.f8 false true false false) := by
  refine returnsInHanded_of_change_sized (C := Try.checked) own started (by kernel_rfl) Try.func8
    (ChangeSpec.witness6 (enc := enc) (C := Try.checked) false ⟨#[], #[.string ByteArray.empty, .int .i64 0, .int .i64 0], []⟩ 8 (by kernel_rfl) (by kernel_rfl) (by kernel_rfl) (by kernel_rfl)) ?_
  intro W base args ds gs before hval0 hW hcnd hsz0 _
  have hsz : (DataW.weightsEach Try.prog (Try.f8.params.toList ++ Rows.reachBlockSpec.plain.varTypes Try.prog) (ds ++ gs)).all (· ≤ reachBytes) = true := hsz0
  have hval : ∀ (j : Nat) t v, Try.f8.params[j]? = some t → args[j]? = some v → Value.okWide Try.prog W .any base t v := hval0
  have hW' := hW
  obtain ⟨p, q, hA0, hV, rfl, hfz, hnd⟩ := hW
  have hA : DataW.TrodAll enc Try.prog W 0 (fun _ => true) true Try.f8.params.toList args.toList ds p := hA0
  rw [Try.params8] at hA hval hsz
  obtain ⟨v0, vs0, d0, ds0, p0, q0, hargs, rfl, rfl, h0, r0⟩ := trodAll_cons hA
  obtain ⟨v1, vs1, d1, ds1, p1, q1, rfl, rfl, rfl, h1, r1⟩ := trodAll_cons r0
  obtain ⟨v2, vs2, d2, ds2, p2, q2, rfl, rfl, rfl, h2, r2⟩ := trodAll_cons r1
  obtain ⟨rfl, rfl, rfl⟩ := trodAll_nil r2
  obtain rfl : args = #[v0, v1, v2] := by cases args; simp_all
  obtain ⟨rfl, rfl⟩ := trodVars_none hV
  obtain ⟨a0, rfl, rfl, rfl, y0⟩ := open_string Try.underlying9 (hval 0 9 v0 rfl rfl) h0
  have w0 : a0.size ≤ 140737488351232 := by
    have z := sized_string hsz (j := 0) (t := 9) rfl rfl
    rw [Array.length_toList] at z
    exact z
  obtain ⟨a1, rfl, rfl, rfl, w1⟩ := open_int Try.underlying3 (hval 1 3 v1 rfl rfl) h1
  obtain ⟨a2, rfl, rfl, rfl, w2⟩ := open_int Try.underlying3 (hval 2 3 v2 rfl rfl) h2
  clear hA0 hval0 hsz0 hsz
  refine (P.riverbanklaw05_ReachBlock.walk Pure.ReachBlock a0 a1 a2 W w0 w1 w2).mono fun e W' ⟨he, bel⟩ => ?_
  subst he
  exact ⟨_, rfl, _, _, _, [], _, [], hW', trodAll_mk1 (shut_bool Try.underlying4 _), (trodAll_cons_mk (shut_string Try.underlying9 y0) (trodAll_cons_mk (shut_int Try.underlying3 w1) (trodAll_cons_mk (shut_int Try.underlying3 w2) trodAll_mk0))), rfl, bel.frame _, fun h => by cases h⟩
theorem over : Rows.reachBlockRow.holds Try.pinned (OpenSpec.ofChange Rows.reachBlockSpec) :=
  OpenClaim.holds_of_wide 8 Try.f8 rfl rfl rfl rfl rfl rfl rfl ⟨rfl, rfl, rfl, rfl, rfl⟩ rfl rfl rfl rfl rfl (by kernel_rfl) Try.func8 (by kernel_rfl)
    (of_decide_eq_true (by kernel_rfl)) (by unfold Func.isWrapper; first | (rw [if_pos (by decide +kernel)]; kernel_rfl) | (rw [if_neg (by decide +kernel)]; exact ⟨rfl, rfl⟩))
    (fun os started H enc _ => lifted os started H enc)
theorem proved : Rows.ReachBlockSaid := over
end Go.Proofs.Ytcanbidenhcohaa.reachBlock
namespace Go.Proofs.Ytcanbidenhcohaa
/-- The row, under a short name, for the claim. -/
theorem reachBlock_holds : Rows.ReachBlockSaid := reachBlock.proved
end Go.Proofs.Ytcanbidenhcohaa
