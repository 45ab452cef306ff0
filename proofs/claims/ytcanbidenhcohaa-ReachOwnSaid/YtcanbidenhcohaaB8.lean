/- Walks and plain laws that several statements lean on, joined: no statement of the seat is proved here. -/
import Derived.Test.YtcanbidenhcohaaB1
import Derived.Test.YtcanbidenhcohaaB4
import Derived.Test.YtcanbidenhcohaaB5
import Derived.Test.YtcanbidenhcohaaB7

/- Walks of Go functions, one Lean function and one contract for each, written by a program of this session out of the translation. -/
namespace Go.Proofs.Ytcanbidenhcohaa.P
open Go.RowKit Go.Proofs.YtcanbidenhcohaaW.PrintWords Go.Proofs.YtcanbidenhcohaaW.PrintLast Go.Proofs.YtcanbidenhcohaaW.PrintMore
attribute [local go_sem] max2_int min2_int max_two min_two max_three min_three max_four min_four   -- for this text's walks alone
set_option linter.unusedVariables false
set_option linter.unusedSimpArgs false

/-! ### riverbankref02_Of: function 53 -/
def riverbankref02_Of.f (a0 : Int) (a1 : Int) : Option (Int) := if a1 = 1 then (some ((((a0 - 65) % 256) + 97) % 256)) else (some a0)
set_option maxHeartbeats 8000000 in
set_option maxRecDepth 100000 in
theorem riverbankref02_Of.calls (a0 : Int) (a1 : Int) (r : Int) (w : World) (h : riverbankref02_Of.f a0 a1 = some r) :
    Calls Try.prog 53 #[.int .u8 a0, .int .i64 a1] w fun e w' => e = .returned (.int .u8 r) ∧ Drawn0 w w' := by
  have H : (if a1 = 1 then (some ((((a0 - 65) % 256) + 97) % 256)) else (some a0)) = some r := h
  clear h
  by_cases c3 : a1 = 1
  · rw [if_pos c3] at H
    have c3b0 : (a1 == 1) = true := beq_iff_eq.mpr c3
    have c3b1 : (a1 != 1) = false := bne_eq_false_iff_eq.mpr c3
    clear c3
    obtain rfl := Option.some.inj H
    go_enter Try.func53, Try.ntmps53
    go_wp2
    go_ret
    exact ⟨by first | rfl | (simp; done) | (simp [*]; done), by repeat (first | exact Drawn0.refl _ | apply Drawn0.step)⟩
  · rw [if_neg c3] at H
    have c3b0 : (a1 == 1) = false := beq_eq_false_iff_ne.mpr c3
    have c3b1 : (a1 != 1) = true := bne_iff_ne.mpr c3
    obtain rfl := Option.some.inj H
    go_enter Try.func53, Try.ntmps53
    go_wp2
    go_ret
    exact ⟨by first | rfl | (simp; done) | (simp [*]; done), by repeat (first | exact Drawn0.refl _ | apply Drawn0.step)⟩

/-! ### riverbankref02_Turn: function 21 -/
def riverbankref02_Turn.l0 : Nat → ByteArray → ByteArray → Int → Option (ByteArray)
  | 0, _, _, _ => none
  | k + 1, x0, x3, x4 => if x4 ≥ 0 then (if 0 ≤ x4 then (if x4 < (x0.size : Int) then ((riverbankref02_Side.f k (bt x0 x4)).bind fun t324 => (if t324 ≥ 0 then ((riverbankref02_Kind.f k (bt x0 x4)).bind fun t325 => ((riverbankref02_Side.f k (bt x0 x4)).bind fun t326 => ((riverbankref02_Of.f t325 (wrap64 (1 - t326))).bind fun t327 => ((some (([t327] : List Int) : List Int)).bind fun y328 => (if x3.size + (strOfNums y328).size ≤ 9223372036854775807 then (riverbankref02_Turn.l0 k x0 (x3 ++ (strOfNums y328)) (wrap64 (x4 - 1))) else (none)))))) else ((some (([bt x0 x4] : List Int) : List Int)).bind fun y331 => (if x3.size + (strOfNums y331).size ≤ 9223372036854775807 then (riverbankref02_Turn.l0 k x0 (x3 ++ (strOfNums y331)) (wrap64 (x4 - 1))) else (none))))) else (none)) else (none)) else (some x3)
def riverbankref02_Turn.f (k : Nat) (a0 : ByteArray) : Option (ByteArray) := (riverbankref02_Is.f k a0).bind fun t323 => (if t323 = true then (riverbankref02_Turn.l0 k a0 (⟨#[]⟩ : ByteArray) 89) else (some (⟨#[]⟩ : ByteArray)))
theorem riverbankref02_Turn.mono_l : ∀ k, (∀ y0 y1 y2, LeO (riverbankref02_Turn.l0 k y0 y1 y2) (riverbankref02_Turn.l0 (k + 1) y0 y1 y2))
  | 0 => fun _ _ _ r h => by simp [riverbankref02_Turn.l0] at h
  | k + 1 => by
    have ih0 := riverbankref02_Turn.mono_l k
    · intro y0 y1 y2
      unfold riverbankref02_Turn.l0
      repeat' first
      | (with_reducible exact ih0 _ _ _)
      | (with_reducible exact riverbankref02_Is.mono _ _)
      | (with_reducible exact riverbankref02_Kind.mono _ _)
      | (with_reducible exact riverbankref02_Side.mono _ _)
      | (with_reducible exact LeO.refl _)
      | (with_reducible exact LeO.none _)
      | (with_reducible refine LeO.ite ?_ ?_)
      | (with_reducible refine LeO.bind ?_ (fun _ => ?_))
      | exact ih0 _ _ _
      | exact riverbankref02_Is.mono _ _
      | exact riverbankref02_Kind.mono _ _
      | exact riverbankref02_Side.mono _ _
      | exact LeO.none _
      | refine LeO.ite ?_ ?_
      | refine LeO.bind ?_ (fun _ => ?_)
theorem riverbankref02_Turn.mono : ∀ a0 k, LeO (riverbankref02_Turn.f k a0) (riverbankref02_Turn.f (k + 1) a0) := by
  intro a0 k
  have ih0 := riverbankref02_Turn.mono_l k
  unfold riverbankref02_Turn.f
  repeat' first
      | (with_reducible exact ih0 _ _ _)
      | (with_reducible exact riverbankref02_Is.mono _ _)
      | (with_reducible exact riverbankref02_Kind.mono _ _)
      | (with_reducible exact riverbankref02_Side.mono _ _)
      | (with_reducible exact LeO.refl _)
      | (with_reducible exact LeO.none _)
      | (with_reducible refine LeO.ite ?_ ?_)
      | (with_reducible refine LeO.bind ?_ (fun _ => ?_))
      | exact ih0 _ _ _
      | exact riverbankref02_Is.mono _ _
      | exact riverbankref02_Kind.mono _ _
      | exact riverbankref02_Side.mono _ _
      | exact LeO.none _
      | refine LeO.ite ?_ ?_
      | refine LeO.bind ?_ (fun _ => ?_)
set_option maxHeartbeats 8000000 in
set_option maxRecDepth 100000 in
theorem riverbankref02_Turn.calls (k : Nat) (a0 : ByteArray) (r : ByteArray) (w : World) (h : riverbankref02_Turn.f k a0 = some r) :
    Calls Try.prog 21 #[.string a0] w fun e w' => e = .returned (.string r) ∧ Below w.heap.size w w' := by
  have HB := Aside0.mk (Below.refl w.heap.size w)
  have H : ((riverbankref02_Is.f k a0).bind fun t323 => (if t323 = true then (riverbankref02_Turn.l0 k a0 (⟨#[]⟩ : ByteArray) 89) else (some (⟨#[]⟩ : ByteArray)))) = some r := h
  clear h
  replace H := Option.bind_eq_some_iff.mp H
  obtain ⟨t323, A20, H⟩ := H
  replace H : (if t323 = true then (riverbankref02_Turn.l0 k a0 (⟨#[]⟩ : ByteArray) 89) else (some (⟨#[]⟩ : ByteArray))) = some r := H
  have A2 := Aside0.mk A20
  clear A20
  by_cases c3 : t323 = true
  · subst c3
    have H1 : (riverbankref02_Turn.l0 k a0 (⟨#[]⟩ : ByteArray) 89) = some r := by rw [if_pos rfl] at H; exact H
    clear H
    have H := H1
    clear H1
    have H' := Aside0.mk H
    clear H
    go_enter Try.func21, Try.ntmps21
    go_wp2_with (first | ((with_reducible refine gate_callee (f := 47) rfl ?_); refine goesL_ (some 7) rfl rfl Try.func47 (by kernel_rfl) rfl #[.string a0] rfl (by (try simp only [List.map_toArray, List.map_cons, List.map_nil]); first | done | rfl | (simp only [List.length_drop, List.length_take]; rfl)) ?_; (with_reducible refine (riverbankref02_Is.calls k a0 true _ A2.out).mono ?_); rintro e w' ⟨rfl, ⟨nd, rfl⟩⟩; refine ⟨_, rfl, ?_⟩))
    go_loopg [3, 4] k (fun kq v3 v4 w' => ∃ (x3_1 : ByteArray) (x4_1 : Int), v3 = .string x3_1 ∧ v4 = .int .i64 x4_1 ∧ Aside0 (riverbankref02_Turn.l0 kq a0 x3_1 x4_1 = some r) ∧ Aside0 (kq ≤ k) ∧ Aside0 (Below w.heap.size w w'))
    case atStart => exact ⟨((⟨#[]⟩ : ByteArray)), (89), (by first | rfl | (simp; done) | (simp [*]; done)), (by first | rfl | (simp; done) | (simp [*]; done)), H', ⟨Nat.le_refl _⟩, ⟨by repeat (first | (with_reducible first | exact HB.out | apply below_alloc | apply pw_below_drewN | apply below_drew1) | exact HB.out)⟩⟩
    case round =>
      clear H'
      try clear c2
      try clear p2
      try clear c3
      obtain ⟨x3_1, x4_1, rfl, rfl, HA, HK1, HB⟩ := hrel
      cases gk with
      | zero => exact absurd HA.out (by simp [riverbankref02_Turn.l0])
      | succ k1 =>
        have H := HA.out
        clear HA
        simp only [riverbankref02_Turn.l0] at H
        by_cases c4 : x4_1 ≥ 0
        · rw [if_pos c4] at H
          have c4b0 : decide (0 ≤ x4_1) = true := decide_eq_true c4
          clear c4
          by_cases c5 : 0 ≤ x4_1
          · rw [if_pos c5] at H
            have c5b0 : decide (0 ≤ x4_1) = true := decide_eq_true c5
            clear c5
            by_cases c6 : x4_1 < (a0.size : Int)
            · rw [if_pos c6] at H
              have c6b0 : decide (x4_1 < (a0.size : Int)) = true := decide_eq_true c6
              clear c6
              replace H := Option.bind_eq_some_iff.mp H
              obtain ⟨t324, A80, H⟩ := H
              replace H : (if t324 ≥ 0 then ((riverbankref02_Kind.f k1 (bt a0 x4_1)).bind fun t325 => ((riverbankref02_Side.f k1 (bt a0 x4_1)).bind fun t326 => ((riverbankref02_Of.f t325 (wrap64 (1 - t326))).bind fun t327 => ((some (([t327] : List Int) : List Int)).bind fun y328 => (if x3_1.size + (strOfNums y328).size ≤ 9223372036854775807 then (riverbankref02_Turn.l0 k1 a0 (x3_1 ++ (strOfNums y328)) (wrap64 (x4_1 - 1))) else (none)))))) else ((some (([bt a0 x4_1] : List Int) : List Int)).bind fun y331 => (if x3_1.size + (strOfNums y331).size ≤ 9223372036854775807 then (riverbankref02_Turn.l0 k1 a0 (x3_1 ++ (strOfNums y331)) (wrap64 (x4_1 - 1))) else (none)))) = some r := H
              have A8 := Aside0.mk A80
              clear A80
              by_cases c9 : t324 ≥ 0
              · rw [if_pos c9] at H
                have c9b0 : decide (0 ≤ t324) = true := decide_eq_true c9
                clear c9
                replace H := Option.bind_eq_some_iff.mp H
                obtain ⟨t325, A100, H⟩ := H
                replace H : ((riverbankref02_Side.f k1 (bt a0 x4_1)).bind fun t326 => ((riverbankref02_Of.f t325 (wrap64 (1 - t326))).bind fun t327 => ((some (([t327] : List Int) : List Int)).bind fun y328 => (if x3_1.size + (strOfNums y328).size ≤ 9223372036854775807 then (riverbankref02_Turn.l0 k1 a0 (x3_1 ++ (strOfNums y328)) (wrap64 (x4_1 - 1))) else (none))))) = some r := H
                have A10 := Aside0.mk A100
                clear A100
                replace H := Option.bind_eq_some_iff.mp H
                obtain ⟨t326, A110, H⟩ := H
                replace H : ((riverbankref02_Of.f t325 (wrap64 (1 - t326))).bind fun t327 => ((some (([t327] : List Int) : List Int)).bind fun y328 => (if x3_1.size + (strOfNums y328).size ≤ 9223372036854775807 then (riverbankref02_Turn.l0 k1 a0 (x3_1 ++ (strOfNums y328)) (wrap64 (x4_1 - 1))) else (none)))) = some r := H
                have A11 := Aside0.mk A110
                clear A110
                replace H := Option.bind_eq_some_iff.mp H
                obtain ⟨t327, A120, H⟩ := H
                replace H : ((some (([t327] : List Int) : List Int)).bind fun y328 => (if x3_1.size + (strOfNums y328).size ≤ 9223372036854775807 then (riverbankref02_Turn.l0 k1 a0 (x3_1 ++ (strOfNums y328)) (wrap64 (x4_1 - 1))) else (none))) = some r := H
                have A12 := Aside0.mk A120
                clear A120
                obtain ⟨y328, hy328⟩ : ∃ y_ : List Int, y_ = (([t327] : List Int)) := ⟨_, rfl⟩
                replace H : (if x3_1.size + (strOfNums y328).size ≤ 9223372036854775807 then (riverbankref02_Turn.l0 k1 a0 (x3_1 ++ (strOfNums y328)) (wrap64 (x4_1 - 1))) else (none)) = some r := by first | (rw [hy328]; with_reducible exact H) | (have H2_ := (Option.bind_some _ _).symm.trans H; rw [hy328]; with_reducible exact H2_) | (have H2_ := (Option.bind_some _ _).symm.trans H; with_reducible exact H2_) | with_reducible exact H | (rw [hy328]; exact H) | exact H
                have Ny328 := Aside0.mk hy328
                clear hy328
                by_cases c13 : x3_1.size + (strOfNums y328).size ≤ 9223372036854775807
                · rw [if_pos c13] at H
                  have c13b0 := eq_true c13
                  have c13b1 : decide (x3_1.size + (strOfNums y328).size ≤ 9223372036854775807) = true := decide_eq_true c13
                  try have c13b2 : (9223372036854775807 < x3_1.size + (strOfNums y328).size) = False := eq_false (Nat.not_lt.2 c13)
                  have H' := Aside0.mk H
                  clear H
                  have p7 : 0 ≤ (x4_1 : Int) := of_decide_eq_true (by first | (with_reducible assumption) | assumption)
                  have q7 : x4_1 < (a0.size : Int) := of_decide_eq_true (by first | (with_reducible assumption) | assumption)
                  have hx7 := bt_at a0 x4_1
                  replace p7 := eq_true p7
                  replace q7 := eq_true q7
                  go_wp2_with (first | ((with_reducible refine gate_callee (f := 38) rfl ?_); refine goesL_ (some 17) rfl rfl Try.func38 (by kernel_rfl) rfl #[.int .u8 (bt a0 x4_1)] rfl (by (try simp only [List.map_toArray, List.map_cons, List.map_nil]); first | done | rfl | (simp only [List.length_drop, List.length_take]; rfl)) ?_; (with_reducible refine (riverbankref02_Side.calls k1 (bt a0 x4_1) t324 _ A8.out).mono ?_); rintro e w' ⟨rfl, ⟨nd, rfl⟩⟩; refine ⟨_, rfl, ?_⟩) | ((with_reducible refine gate_callee (f := 33) rfl ?_); refine goesL_ (some 20) rfl rfl Try.func33 (by kernel_rfl) rfl #[.int .u8 (bt a0 x4_1)] rfl (by (try simp only [List.map_toArray, List.map_cons, List.map_nil]); first | done | rfl | (simp only [List.length_drop, List.length_take]; rfl)) ?_; (with_reducible refine (riverbankref02_Kind.calls k1 (bt a0 x4_1) t325 _ A10.out).mono ?_); rintro e w' ⟨rfl, ⟨nd, rfl⟩⟩; refine ⟨_, rfl, ?_⟩) | ((with_reducible refine gate_callee (f := 38) rfl ?_); refine goesL_ (some 22) rfl rfl Try.func38 (by kernel_rfl) rfl #[.int .u8 (bt a0 x4_1)] rfl (by (try simp only [List.map_toArray, List.map_cons, List.map_nil]); first | done | rfl | (simp only [List.length_drop, List.length_take]; rfl)) ?_; (with_reducible refine (riverbankref02_Side.calls k1 (bt a0 x4_1) t326 _ A11.out).mono ?_); rintro e w' ⟨rfl, ⟨nd, rfl⟩⟩; refine ⟨_, rfl, ?_⟩) | ((with_reducible refine gate_callee (f := 53) rfl ?_); refine goesL_ (some 24) rfl rfl Try.func53 (by kernel_rfl) rfl #[.int .u8 t325, .int .i64 (wrap64 (1 - t326))] rfl (by (try simp only [List.map_toArray, List.map_cons, List.map_nil]); first | done | rfl | (simp only [List.length_drop, List.length_take]; rfl)) ?_; (with_reducible refine (riverbankref02_Of.calls t325 (wrap64 (1 - t326)) t327 _ A12.out).mono ?_); rintro e w' ⟨rfl, ⟨nd, rfl⟩⟩; refine ⟨_, rfl, ?_⟩) | ((with_reducible refine gate_dst (N := 27) rfl ?_); refine Kd.R_lit (Kd.int .u8) _ 5 ?hg (N := 27) ?hd (xs := ([t327] : List Int)) (inner := [.int .u8 t327]) (ok := fun _ => True) (okp := fun _ => True) ?hr ?hp (fun _ hk => hk) trivial (Below.refl _ _) (Nat.le_refl _) (by simp) ?_; (case hd => rfl); (case hg => rfl); (case hr => first | (go_simp; done) | (go_simp; rfl)); (case hp => exact (Reps.one (show Kd.M (Kd.int .u8) _ _ _ t327 [.int .u8 t327] from rfl) (Reps.none _ _))); intro v329 w14 ho15 hb hg_ hnew_; clear hg_ hnew_; (first | rw [← Ny328.out] at ho15 | (simp only [Int.reduceToNat] at ho15; rw [← Ny328.out] at ho15)); have n0_ := Aside0.mk (Kd.R_lower ho15 (below_size (by repeat (first | (with_reducible first | exact HB.out | apply below_alloc | apply pw_below_drewN | apply below_drew1) | exact HB.out)))); have n1_ := Aside0.mk (below_step (by repeat (first | (with_reducible first | exact HB.out | apply below_alloc | apply pw_below_drewN | apply below_drew1) | exact HB.out)) hb); clear HB; have HO330 := n0_; have HB := n1_; clear n0_ n1_; clear hb ho15; have hcv16 := own_string (P := Try.prog) Try.underlying61 Try.underlying5 Try.underlying9 (Kd.own_of_R HO330.out)))
                  go_roundg k1
                  case measure => have := HK1.out; omega
                  case rel => exact ⟨(x3_1 ++ (strOfNums y328)), (wrap64 (x4_1 - 1)), (by first | rfl | (simp; done) | (simp [*]; done)), (by first | rfl | (simp; done) | (simp [*]; done)), H', ⟨by have := HK1.out; omega⟩, ⟨by repeat (first | (with_reducible first | exact HB.out | apply below_alloc | apply pw_below_drewN | apply below_drew1) | exact HB.out)⟩⟩
                · rw [if_neg c13] at H
                  exact absurd H (by simp)
              · rw [if_neg c9] at H
                have c9b0 : decide (0 ≤ t324) = false := decide_eq_false c9
                clear c9
                obtain ⟨y331, hy331⟩ : ∃ y_ : List Int, y_ = (([bt a0 x4_1] : List Int)) := ⟨_, rfl⟩
                replace H : (if x3_1.size + (strOfNums y331).size ≤ 9223372036854775807 then (riverbankref02_Turn.l0 k1 a0 (x3_1 ++ (strOfNums y331)) (wrap64 (x4_1 - 1))) else (none)) = some r := by first | (rw [hy331]; with_reducible exact H) | (have H2_ := (Option.bind_some _ _).symm.trans H; rw [hy331]; with_reducible exact H2_) | (have H2_ := (Option.bind_some _ _).symm.trans H; with_reducible exact H2_) | with_reducible exact H | (rw [hy331]; exact H) | exact H
                have Ny331 := Aside0.mk hy331
                clear hy331
                by_cases c17 : x3_1.size + (strOfNums y331).size ≤ 9223372036854775807
                · rw [if_pos c17] at H
                  have c17b0 := eq_true c17
                  have c17b1 : decide (x3_1.size + (strOfNums y331).size ≤ 9223372036854775807) = true := decide_eq_true c17
                  try have c17b2 : (9223372036854775807 < x3_1.size + (strOfNums y331).size) = False := eq_false (Nat.not_lt.2 c17)
                  have H' := Aside0.mk H
                  clear H
                  have p7 : 0 ≤ (x4_1 : Int) := of_decide_eq_true (by first | (with_reducible assumption) | assumption)
                  have q7 : x4_1 < (a0.size : Int) := of_decide_eq_true (by first | (with_reducible assumption) | assumption)
                  have hx7 := bt_at a0 x4_1
                  replace p7 := eq_true p7
                  replace q7 := eq_true q7
                  go_wp2_with (first | ((with_reducible refine gate_callee (f := 38) rfl ?_); refine goesL_ (some 17) rfl rfl Try.func38 (by kernel_rfl) rfl #[.int .u8 (bt a0 x4_1)] rfl (by (try simp only [List.map_toArray, List.map_cons, List.map_nil]); first | done | rfl | (simp only [List.length_drop, List.length_take]; rfl)) ?_; (with_reducible refine (riverbankref02_Side.calls k1 (bt a0 x4_1) t324 _ A8.out).mono ?_); rintro e w' ⟨rfl, ⟨nd, rfl⟩⟩; refine ⟨_, rfl, ?_⟩) | ((with_reducible refine gate_dst (N := 27) rfl ?_); refine Kd.R_lit (Kd.int .u8) _ 5 ?hg (N := 27) ?hd (xs := ([bt a0 x4_1] : List Int)) (inner := [.int .u8 (bt a0 x4_1)]) (ok := fun _ => True) (okp := fun _ => True) ?hr ?hp (fun _ hk => hk) trivial (Below.refl _ _) (Nat.le_refl _) (by simp) ?_; (case hd => rfl); (case hg => rfl); (case hr => first | (go_simp; done) | (go_simp; rfl)); (case hp => exact (Reps.one (show Kd.M (Kd.int .u8) _ _ _ (bt a0 x4_1) [.int .u8 (bt a0 x4_1)] from rfl) (Reps.none _ _))); intro v332 w18 ho19 hb hg_ hnew_; clear hg_ hnew_; (first | rw [← Ny331.out] at ho19 | (simp only [Int.reduceToNat] at ho19; rw [← Ny331.out] at ho19)); have n0_ := Aside0.mk (Kd.R_lower ho19 (below_size (by repeat (first | (with_reducible first | exact HB.out | apply below_alloc | apply pw_below_drewN | apply below_drew1) | exact HB.out)))); have n1_ := Aside0.mk (below_step (by repeat (first | (with_reducible first | exact HB.out | apply below_alloc | apply pw_below_drewN | apply below_drew1) | exact HB.out)) hb); clear HB; have HO333 := n0_; have HB := n1_; clear n0_ n1_; clear hb ho19; have hcv20 := own_string (P := Try.prog) Try.underlying61 Try.underlying5 Try.underlying9 (Kd.own_of_R HO333.out)))
                  go_roundg k1
                  case measure => have := HK1.out; omega
                  case rel => exact ⟨(x3_1 ++ (strOfNums y331)), (wrap64 (x4_1 - 1)), (by first | rfl | (simp; done) | (simp [*]; done)), (by first | rfl | (simp; done) | (simp [*]; done)), H', ⟨by have := HK1.out; omega⟩, ⟨by repeat (first | (with_reducible first | exact HB.out | apply below_alloc | apply pw_below_drewN | apply below_drew1) | exact HB.out)⟩⟩
                · rw [if_neg c17] at H
                  exact absurd H (by simp)
            · rw [if_neg c6] at H
              exact absurd H (by simp)
          · rw [if_neg c5] at H
            exact absurd H (by simp)
        · rw [if_neg c4] at H
          have c4b0 : decide (0 ≤ x4_1) = false := decide_eq_false c4
          clear c4
          obtain rfl := Option.some.inj H
          go_wp2
          go_ret
          exact ⟨by first | rfl | (simp [errW_none, errW_some] <;> rfl) | (simp [*, errW_none, errW_some] <;> rfl), by repeat (first | (with_reducible first | exact HB.out | apply below_alloc | apply pw_below_drewN | apply below_drew1) | exact HB.out)⟩
  · replace c3 := Bool.eq_false_iff.mpr c3
    subst c3
    have H1 : (some (⟨#[]⟩ : ByteArray)) = some r := by rw [if_neg (show ¬ (false = true) by decide)] at H; exact H
    clear H
    have H := H1
    clear H1
    obtain rfl := Option.some.inj H
    go_enter Try.func21, Try.ntmps21
    go_wp2_with (first | ((with_reducible refine gate_callee (f := 47) rfl ?_); refine goesL_ (some 7) rfl rfl Try.func47 (by kernel_rfl) rfl #[.string a0] rfl (by (try simp only [List.map_toArray, List.map_cons, List.map_nil]); first | done | rfl | (simp only [List.length_drop, List.length_take]; rfl)) ?_; (with_reducible refine (riverbankref02_Is.calls k a0 false _ A2.out).mono ?_); rintro e w' ⟨rfl, ⟨nd, rfl⟩⟩; refine ⟨_, rfl, ?_⟩))
    go_ret
    exact ⟨by first | rfl | (simp [errW_none, errW_some] <;> rfl) | (simp [*, errW_none, errW_some] <;> rfl), by repeat (first | (with_reducible first | exact HB.out | apply below_alloc | apply pw_below_drewN | apply below_drew1) | exact HB.out)⟩

end Go.Proofs.Ytcanbidenhcohaa.P

/- Plain law: seen from the other side a piece reaches the same. -/
namespace Go.Proofs.Ytcanbidenhcohaa.Sp

theorem sideV (x : Nat) : sideN x = -1 ∨ sideN x = 0 ∨ sideN x = 1 := by
  unfold sideN
  cases isRed x with
  | true => simp
  | false => cases isBlack x <;> simp
/-- A piece of the other side. -/
def swapN (x : Nat) : Nat := if isRed x then x + 32 else if isBlack x then x - 32 else x
/-- A board from the other side. -/
def turnC (c : Nat → Nat) (n : Nat) : Nat := swapN (c (89 - n))

theorem swap_facts : ∀ x ∈ letters, swapN x ∈ letters ∧ (swapN x = 46 ↔ x = 46) ∧ kindN (swapN x) = kindN x ∧ sideN (swapN x) = (if sideN x = -1 then -1 else 1 - sideN x) ∧ swapN (swapN x) = x := by decide
theorem may_turn : ∀ x ∈ letters, ∀ n : Fin 90, mayN (swapN x) (89 - n.1) = mayN x n.1 := by decide +kernel
theorem away_turn : ∀ a b : Fin 90, away ((89 - a.1) % 9) ((89 - b.1) % 9) = away (a.1 % 9) (b.1 % 9) ∧ away ((89 - a.1) / 9) ((89 - b.1) / 9) = away (a.1 / 9) (b.1 / 9) ∧ ((89 - a.1) / 9 = (89 - b.1) / 9 ↔ a.1 / 9 = b.1 / 9) ∧ ((89 - a.1) % 9 = (89 - b.1) % 9 ↔ a.1 % 9 = b.1 % 9) := by decide +kernel
theorem betwL_turn : ∀ a b : Fin 90, betwL (89 - a.1) (89 - b.1) = ((betwL a.1 b.1).map (fun i => 89 - i)).reverse ∧ (∀ i ∈ betwL a.1 b.1, i < 90) := by decide +kernel
theorem betwL_sym : ∀ a b : Fin 90, betwL a.1 b.1 = betwL b.1 a.1 := by decide +kernel
theorem leg_turn : ∀ a b : Fin 90, ((away (a.1 % 9) (b.1 % 9) == 1 && away (a.1 / 9) (b.1 / 9) == 2) || (away (a.1 % 9) (b.1 % 9) == 2 && away (a.1 / 9) (b.1 / 9) == 1)) = true → legN (89 - a.1) (89 - b.1) = 89 - legN a.1 b.1 ∧ legN a.1 b.1 < 90 := by decide +kernel
theorem mid_turn : ∀ a b : Fin 90, away (a.1 % 9) (b.1 % 9) = 2 → away (a.1 / 9) (b.1 / 9) = 2 → ((89 - a.1) + (89 - b.1)) / 2 = 89 - (a.1 + b.1) / 2 ∧ (a.1 + b.1) / 2 < 90 := by decide +kernel
theorem pawn_turn : ∀ s : Fin 2, ∀ a b : Fin 90, pawnN (1 - ((s.1 : Nat) : Int)) (89 - a.1) (89 - b.1) = pawnN ((s.1 : Nat) : Int) a.1 b.1 := by decide +kernel

theorem turnC_at (c : Nat → Nat) {n : Nat} (hn : n < 90) : turnC c (89 - n) = swapN (c n) := by
  unfold turnC
  congr 2
  omega
section
variable {c : Nat → Nat} (hc : ∀ n, n < 90 → c n ∈ letters)
include hc
theorem turnC_letters {n : Nat} (hn : n < 90) : turnC c n ∈ letters := by
  unfold turnC
  exact (swap_facts _ (hc _ (by omega))).1
theorem turnC_empty {n : Nat} (hn : n < 90) : (turnC c (89 - n) == 46) = (c n == 46) := by
  rw [turnC_at c hn, Bool.eq_iff_iff, beq_iff_eq, beq_iff_eq]
  exact (swap_facts _ (hc n hn)).2.1
theorem betw_turn {a b : Nat} (ha : a < 90) (hb : b < 90) : betwN (turnC c) (89 - a) (89 - b) = betwN c a b := by
  obtain ⟨_, _, h3, h4⟩ := away_turn ⟨a, ha⟩ ⟨b, hb⟩
  obtain ⟨h5, h6⟩ := betwL_turn ⟨a, ha⟩ ⟨b, hb⟩
  simp only at h3 h4 h5 h6
  unfold betwN
  rw [h5]
  have he : (89 - a = 89 - b) ↔ a = b := by omega
  by_cases hab : a = b
  · rw [if_pos hab, if_pos (he.2 hab)]
  rw [if_neg hab, if_neg (fun h => hab (he.1 h))]
  by_cases hline : a / 9 = b / 9 ∨ a % 9 = b % 9
  · rw [if_pos hline, if_pos (hline.imp h3.2 h4.2)]
    rw [List.countP_reverse, List.countP_map]
    congr 1
    apply List.countP_congr
    intro i hi
    simp only [Function.comp]
    have := turnC_empty hc (h6 i hi)
    rw [bne, this, bne]
  · rw [if_neg hline, if_neg (fun h => hline (h.imp h3.1 h4.1))]
omit hc in
theorem betw_sym (c : Nat → Nat) {a b : Nat} (ha : a < 90) (hb : b < 90) : betwN c a b = betwN c b a := by
  unfold betwN
  rw [betwL_sym ⟨a, ha⟩ ⟨b, hb⟩]
  by_cases hab : a = b
  · rw [if_pos hab, if_pos hab.symm]
  · rw [if_neg hab, if_neg (fun h : b = a => hab h.symm)]
    by_cases hline : a / 9 = b / 9 ∨ a % 9 = b % 9
    · rw [if_pos hline, if_pos (hline.imp Eq.symm Eq.symm)]
    · rw [if_neg hline, if_neg (fun h => hline (h.imp Eq.symm Eq.symm))]
theorem can_turn {a b : Nat} (ha : a < 90) (hb : b < 90) (hs : 0 ≤ sideN (c a)) : canN (turnC c) (89 - a) (89 - b) = canN c a b := by
  obtain ⟨f1, f2, f3, f4, f5⟩ := swap_facts _ (hc a ha)
  obtain ⟨w1, w2, _, _⟩ := away_turn ⟨a, ha⟩ ⟨b, hb⟩
  have hm := may_turn _ (hc a ha) ⟨b, hb⟩
  have hl := leg_turn ⟨a, ha⟩ ⟨b, hb⟩
  have hmid := mid_turn ⟨a, ha⟩ ⟨b, hb⟩
  simp only at w1 w2 hm hl hmid
  unfold canN horseN
  rw [turnC_at c ha, f3, w1, w2, hm, betw_turn hc ha hb, turnC_empty hc hb]
  have hbn : (turnC c (89 - b) != 46) = (c b != 46) := by rw [bne, turnC_empty hc hb, bne]
  rw [hbn]
  by_cases k1 : kindN (c a) = 75
  · rw [if_pos k1, if_pos k1]
  rw [if_neg k1, if_neg k1]
  by_cases k2 : kindN (c a) = 65
  · rw [if_pos k2, if_pos k2]
  rw [if_neg k2, if_neg k2]
  by_cases k3 : kindN (c a) = 66
  · rw [if_pos k3, if_pos k3]
    by_cases e1 : away (a % 9) (b % 9) = 2
    · by_cases e2 : away (a / 9) (b / 9) = 2
      · obtain ⟨m1, m2⟩ := hmid e1 e2
        rw [m1, turnC_empty hc m2]
      · rw [show (away (a / 9) (b / 9) == 2) = false from beq_eq_false_iff_ne.2 e2]; simp
    · rw [show (away (a % 9) (b % 9) == 2) = false from beq_eq_false_iff_ne.2 e1]; simp
  rw [if_neg k3, if_neg k3]
  by_cases k4 : kindN (c a) = 78
  · rw [if_pos k4, if_pos k4]
    cases hp : ((away (a % 9) (b % 9) == 1 && away (a / 9) (b / 9) == 2) || (away (a % 9) (b % 9) == 2 && away (a / 9) (b / 9) == 1)) with
    | false => simp
    | true =>
      obtain ⟨m1, m2⟩ := hl hp
      rw [m1, turnC_empty hc m2]
  rw [if_neg k4, if_neg k4]
  by_cases k5 : kindN (c a) = 82
  · rw [if_pos k5, if_pos k5]
  rw [if_neg k5, if_neg k5]
  by_cases k6 : kindN (c a) = 67
  · rw [if_pos k6, if_pos k6]
  rw [if_neg k6, if_neg k6, f4]
  have hside : sideN (c a) = 0 ∨ sideN (c a) = 1 := by
    have := sideV (c a)
    omega
  rw [if_neg (by omega)]
  rcases hside with h | h <;> rw [h]
  · exact pawn_turn 0 ⟨a, ha⟩ ⟨b, hb⟩
  · exact pawn_turn 1 ⟨a, ha⟩ ⟨b, hb⟩
theorem fast_turn {a b : Nat} (ha : a < 90) (hb : b < 90) : fastN (turnC c) (89 - a) (89 - b) = fastN c a b := by
  obtain ⟨_, _, _, fa, _⟩ := swap_facts _ (hc a ha)
  obtain ⟨_, _, _, fb, _⟩ := swap_facts _ (hc b hb)
  have sa := sideV (c a)
  have sb := sideV (c b)
  unfold fastN
  by_cases h : 0 ≤ sideN (c a)
  · rw [can_turn hc ha hb h, turnC_at c ha, turnC_at c hb, fa, fb]
    rcases sa with sa | sa | sa <;> rcases sb with sb | sb | sb <;> rw [sa, sb] <;> simp <;> omega
  · rw [turnC_at c ha, fa, if_pos (by omega)]
    simp [h]
end
end Go.Proofs.Ytcanbidenhcohaa.Sp

/- Plain law: the reference's Turn, as printed. -/
namespace Go.Proofs.Ytcanbidenhcohaa.P
open Go.RowKit Go.Lib Go.Proofs.YtcanbidenhcohaaW.PrintWords Go.Proofs.YtcanbidenhcohaaW.PrintLast Go.Proofs.YtcanbidenhcohaaW.PrintMore
open Sp
set_option linter.unusedVariables false
set_option linter.unusedSimpArgs false

/-- A text of bytes. -/
def strB (l : List Nat) : ByteArray := ⟨(l.map UInt8.ofNat).toArray⟩
theorem strB_size (l : List Nat) : (strB l).size = l.length := by simp [strB, ByteArray.size]
theorem cel_at (s : ByteArray) (n : Nat) (h : n < s.data.toList.length) : cel s n = (s.data.toList[n]'h).toNat := by
  have hs : n < s.size := by rw [Array.length_toList] at h; exact h
  unfold cel
  rw [← bt_at s (n : Int) (by rw [Int.toNat_natCast]; exact hs)]
  simp only [Int.toNat_natCast]
  rw [Array.getElem_toList]
  rfl
theorem cel_strB (l : List Nat) (n : Nat) (hn : n < l.length) (hl : ∀ x ∈ l, x < 256) : cel (strB l) n = l[n] := by
  have h : n < (strB l).data.toList.length := by simpa [strB] using hn
  rw [cel_at _ _ h]
  have e : (strB l).data.toList[n]'h = UInt8.ofNat (l[n]) := by simp [strB]
  rw [e]
  have := hl _ (List.getElem_mem hn)
  simp [UInt8.toNat_ofNat, Nat.mod_eq_of_lt this]
theorem strB_snoc (l : List Nat) (x : Nat) : strB l ++ strOfNums [(x : Int)] = strB (l ++ [x]) := by
  apply ByteArray.ext
  rw [ByteArray.data_append]
  simp [strB, strOfNums]
theorem isBoard_strB (l : List Nat) (hl : l.length = 90) (h : ∀ x ∈ l, x ∈ letters) : isBoard (strB l) = true := by
  have hlt : ∀ x ∈ letters, x < 256 := by decide
  have hcb : ∀ x ∈ letters, cellB x = true := by decide
  rw [isBoard_all _ (by rw [strB_size]; exact hl), List.all_eq_true]
  intro t ht
  have := List.mem_range.1 ht
  rw [cel_strB l t (by omega) (fun x hx => hlt x (h x hx))]
  exact hcb _ (h _ (List.getElem_mem _))
/-- The texts of one cell function. -/
def boardB (c : Nat → Nat) : ByteArray := strB ((List.range 90).map c)
theorem boardB_is (c : Nat → Nat) (h : ∀ n, n < 90 → c n ∈ letters) : isBoard (boardB c) = true := isBoard_strB _ (by simp) (by intro x hx; obtain ⟨n, hn, rfl⟩ := List.mem_map.1 hx; exact h n (List.mem_range.1 hn))
theorem boardB_cel (c : Nat → Nat) (h : ∀ n, n < 90 → c n ∈ letters) {n : Nat} (hn : n < 90) : cel (boardB c) n = c n := by
  have hlt : ∀ x ∈ letters, x < 256 := by decide
  unfold boardB
  rw [cel_strB _ n (by simpa using hn) (by intro x hx; obtain ⟨m, hm, rfl⟩ := List.mem_map.1 hx; exact hlt _ (h m (List.mem_range.1 hm)))]
  simp
theorem board_ext {s t : ByteArray} (hs : s.size = 90) (ht : t.size = 90) (h : ∀ n, n < 90 → cel s n = cel t n) : s = t := by
  apply ByteArray.ext
  apply Array.ext
  · show s.size = t.size; omega
  · intro i h1 h2
    have a := cel_at s i (by rw [Array.length_toList]; exact h1)
    have b := cel_at t i (by rw [Array.length_toList]; exact h2)
    have := h i (by have : i < s.size := h1; omega)
    rw [a, b] at this
    simp only [Array.getElem_toList] at this
    exact UInt8.toNat_inj.1 this
theorem boardB_eq (s : ByteArray) (hs : isBoard s = true) : boardB (cel s) = s :=
  board_ext (by unfold boardB; rw [strB_size]; simp) (board_size hs) (fun n hn => boardB_cel _ (fun m hm => board_letter hs hm) hn)

def turnS (s : ByteArray) : ByteArray := if isBoard s = true then boardB (turnC (cel s)) else ⟨#[]⟩
theorem rturn_byte : ∀ x ∈ letters, ∀ r : Fin 1, (0 ≤ sideN x → ((if (1 - sideN x) = 1 then (some (((((kindN x : Nat) : Int) - 65) % 256 + 97) % 256)) else (some ((kindN x : Nat) : Int)) : Option Int)) = some ((swapN x : Nat) : Int)) ∧ (sideN x < 0 → swapN x = x) := by decide +kernel
theorem rturn_l0 (s : ByteArray) (hs : isBoard s = true) (m : Nat) : ∀ (k : Nat), m ≤ 90 → m + 2 ≤ k →
    riverbankref02_Turn.l0 k s (strB ((List.range (90 - m)).map (turnC (cel s)))) ((m : Int) - 1) = some (boardB (turnC (cel s))) := by
  have hz := board_size hs
  induction m with
  | zero =>
    intro k _ hk
    obtain ⟨k, rfl⟩ : ∃ m, k = m + 1 := ⟨k - 1, by omega⟩
    simp only [riverbankref02_Turn.l0]
    rw [if_neg (by omega)]
    rfl
  | succ m ih =>
    intro k hm hk
    obtain ⟨k, rfl⟩ : ∃ m, k = m + 1 := ⟨k - 1, by omega⟩
    have hi : (((m + 1 : Nat) : Int) - 1) = (m : Int) := by omega
    have hw : wrap64 ((m : Int) - 1) = (m : Int) - 1 := wrap_small _ (by omega) (by omega)
    have hlet := board_letter hs (n := m) (by omega)
    have hlt := cel_lt s m
    obtain ⟨b1, b2⟩ := rturn_byte _ hlet 0
    have hstep : (List.range (90 - m)).map (turnC (cel s)) = (List.range (90 - (m + 1))).map (turnC (cel s)) ++ [swapN (cel s m)] := by
      rw [show 90 - m = (90 - (m + 1)) + 1 from by omega, List.range_succ, List.map_append]
      congr 1
      simp only [List.map_cons, List.map_nil]
      congr 1
      have := turnC_at (cel s) (n := m) (by omega)
      rw [show 89 - m = 90 - (m + 1) from by omega] at this
      exact this
    have hsz : (strB ((List.range (90 - (m + 1))).map (turnC (cel s)))).size ≤ 90 := by rw [strB_size]; simp; omega
    have i1 := ih k (by omega) (by omega)
    rw [hstep, ← strB_snoc] at i1
    rw [hi]
    simp only [riverbankref02_Turn.l0]
    rw [if_pos (by omega), if_pos (by omega), if_pos (by omega), bt_cel, rside_f _ _ hlt (by omega)]
    simp only [Option.bind_some]
    by_cases hsd : sideN (cel s m) ≥ 0
    · rw [if_pos hsd, rkind_f _ _ hlt (by omega)]
      simp only [Option.bind_some]
      have hsv := sideV (cel s m)
      rw [wrap_small _ (by omega) (by omega)]
      unfold riverbankref02_Of.f
      rw [b1 hsd]
      simp only [Option.bind_some]
      rw [if_pos (by rw [strOfNums_size]; simp only [List.length_singleton]; omega), hw]
      exact i1
    · rw [if_neg hsd]
      rw [b2 (by omega)] at i1
      rw [if_pos (by rw [strOfNums_size]; simp only [List.length_singleton]; omega), hw]
      exact i1
theorem rturn_f (s : ByteArray) (k : Nat) (hk : 100 ≤ k) : riverbankref02_Turn.f k s = some (turnS s) := by
  unfold riverbankref02_Turn.f turnS
  rw [ris_f s k (by omega)]
  simp only [Option.bind_some]
  cases hs : isBoard s with
  | true =>
    rw [if_pos rfl, if_pos rfl]
    exact rturn_l0 s hs 90 k (by omega) (by omega)
  | false => rw [if_neg (by simp), if_neg (by simp)]
theorem turnS_is {s : ByteArray} (hs : isBoard s = true) : isBoard (turnS s) = true ∧ ∀ n, n < 90 → cel (turnS s) n = turnC (cel s) n := by
  have hc : ∀ n, n < 90 → turnC (cel s) n ∈ letters := fun n hn => turnC_letters (fun m hm => board_letter hs hm) hn
  unfold turnS
  rw [if_pos hs]
  exact ⟨boardB_is _ hc, fun n hn => boardB_cel _ hc hn⟩
theorem turnS_not {s : ByteArray} (hs : isBoard s = false) : isBoard (turnS s) = false := by
  unfold turnS
  rw [if_neg (by simp [hs])]
  rfl
end Go.Proofs.Ytcanbidenhcohaa.P
