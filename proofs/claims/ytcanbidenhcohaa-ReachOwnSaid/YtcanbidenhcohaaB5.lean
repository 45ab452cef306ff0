/- Walks and plain laws that several statements lean on, joined: no statement of the seat is proved here. -/
import Derived.Lib.SlicesCompact
import Derived.Test.YtcanbidenhcohaaB1
import Derived.Test.YtcanbidenhcohaaB4

/- Walks of Go functions, one Lean function and one contract for each, written by a program of this session out of the translation. -/
namespace Go.Proofs.Ytcanbidenhcohaa.P
open Go.RowKit Go.Proofs.YtcanbidenhcohaaW.PrintWords Go.Proofs.YtcanbidenhcohaaW.PrintLast Go.Proofs.YtcanbidenhcohaaW.PrintMore
attribute [local go_sem] max2_int min2_int max_two min_two max_three min_three max_four min_four   -- for this text's walks alone
set_option linter.unusedVariables false
set_option linter.unusedSimpArgs false

/-! ### riverbankref05_All: function 16 -/
mutual
def riverbankref05_All.j0 : Nat → ByteArray → Int → List Int → Bool → Option (List Int)
  | 0, _, _, _, _ => none
  | k + 1, x0, x1, x5, x14 => if x14 = true then (some ([] : List Int)) else (riverbankref05_All.l0 k x0 x1 x5 0)
def riverbankref05_All.l0 : Nat → ByteArray → Int → List Int → Int → Option (List Int)
  | 0, _, _, _, _ => none
  | k + 1, x0, x1, x5, x6 => if x6 < 90 then ((riverbankref05_Fast.f k x0 x1 x6).bind fun t298 => (if t298 = true then (if x5.length < 17592186044416 then (riverbankref05_All.l0 k x0 x1 (x5 ++ [x6]) (wrap64 (x6 + 1))) else (none)) else (riverbankref05_All.l0 k x0 x1 x5 (wrap64 (x6 + 1))))) else (some x5)
end
def riverbankref05_All.f (k : Nat) (a0 : ByteArray) (a1 : Int) : Option (List Int) := (riverbankref02_Is.f k a0).bind fun t296 => (if t296 = true then ((riverbankref05_real.f a1).bind fun t297 => (riverbankref05_All.j0 k a0 a1 ([] : List Int) (!t297))) else (riverbankref05_All.j0 k a0 a1 ([] : List Int) true))
theorem riverbankref05_All.mono_l : ∀ k, (∀ y0 y1 y2 y3, LeO (riverbankref05_All.j0 k y0 y1 y2 y3) (riverbankref05_All.j0 (k + 1) y0 y1 y2 y3)) ∧ (∀ y0 y1 y2 y3, LeO (riverbankref05_All.l0 k y0 y1 y2 y3) (riverbankref05_All.l0 (k + 1) y0 y1 y2 y3))
  | 0 => ⟨fun _ _ _ _ r h => by simp [riverbankref05_All.j0] at h, fun _ _ _ _ r h => by simp [riverbankref05_All.l0] at h⟩
  | k + 1 => by
    obtain ⟨ih0, ih1⟩ := riverbankref05_All.mono_l k
    refine ⟨?_, ?_⟩
    · intro y0 y1 y2 y3
      unfold riverbankref05_All.j0
      repeat' first
      | (with_reducible exact ih0 _ _ _ _)
      | (with_reducible exact ih1 _ _ _ _)
      | (with_reducible exact riverbankref02_Is.mono _ _)
      | (with_reducible exact riverbankref05_Fast.mono _ _ _ _)
      | (with_reducible exact LeO.refl _)
      | (with_reducible exact LeO.none _)
      | (with_reducible refine LeO.ite ?_ ?_)
      | (with_reducible refine LeO.bind ?_ (fun _ => ?_))
      | exact ih0 _ _ _ _
      | exact ih1 _ _ _ _
      | exact riverbankref02_Is.mono _ _
      | exact riverbankref05_Fast.mono _ _ _ _
      | exact LeO.none _
      | refine LeO.ite ?_ ?_
      | refine LeO.bind ?_ (fun _ => ?_)
    · intro y0 y1 y2 y3
      unfold riverbankref05_All.l0
      repeat' first
      | (with_reducible exact ih0 _ _ _ _)
      | (with_reducible exact ih1 _ _ _ _)
      | (with_reducible exact riverbankref02_Is.mono _ _)
      | (with_reducible exact riverbankref05_Fast.mono _ _ _ _)
      | (with_reducible exact LeO.refl _)
      | (with_reducible exact LeO.none _)
      | (with_reducible refine LeO.ite ?_ ?_)
      | (with_reducible refine LeO.bind ?_ (fun _ => ?_))
      | exact ih0 _ _ _ _
      | exact ih1 _ _ _ _
      | exact riverbankref02_Is.mono _ _
      | exact riverbankref05_Fast.mono _ _ _ _
      | exact LeO.none _
      | refine LeO.ite ?_ ?_
      | refine LeO.bind ?_ (fun _ => ?_)
theorem riverbankref05_All.mono : ∀ a0 a1 k, LeO (riverbankref05_All.f k a0 a1) (riverbankref05_All.f (k + 1) a0 a1) := by
  intro a0 a1 k
  obtain ⟨ih0, ih1⟩ := riverbankref05_All.mono_l k
  unfold riverbankref05_All.f
  repeat' first
      | (with_reducible exact ih0 _ _ _ _)
      | (with_reducible exact ih1 _ _ _ _)
      | (with_reducible exact riverbankref02_Is.mono _ _)
      | (with_reducible exact riverbankref05_Fast.mono _ _ _ _)
      | (with_reducible exact LeO.refl _)
      | (with_reducible exact LeO.none _)
      | (with_reducible refine LeO.ite ?_ ?_)
      | (with_reducible refine LeO.bind ?_ (fun _ => ?_))
      | exact ih0 _ _ _ _
      | exact ih1 _ _ _ _
      | exact riverbankref02_Is.mono _ _
      | exact riverbankref05_Fast.mono _ _ _ _
      | exact LeO.none _
      | refine LeO.ite ?_ ?_
      | refine LeO.bind ?_ (fun _ => ?_)
set_option maxHeartbeats 8000000 in
set_option maxRecDepth 100000 in
theorem riverbankref05_All.calls (k : Nat) (a0 : ByteArray) (a1 : Int) (r : List Int) (w : World) (h : riverbankref05_All.f k a0 a1 = some r) :
    Calls Try.prog 16 #[.string a0, .int .i64 a1] w fun e w' => ∃ v0_ : Value, e = .returned (v0_) ∧ Kd.R (Kd.int .i64) 3 w' w.heap.size (fun _ => True) v0_ r ∧ Below w.heap.size w w' := by
  have HB := Aside0.mk (Below.refl w.heap.size w)
  have H : ((riverbankref02_Is.f k a0).bind fun t296 => (if t296 = true then ((riverbankref05_real.f a1).bind fun t297 => (riverbankref05_All.j0 k a0 a1 ([] : List Int) (!t297))) else (riverbankref05_All.j0 k a0 a1 ([] : List Int) true))) = some r := h
  clear h
  have HC3 := Aside0.mk H
  clear H
  go_enter Try.func16, Try.ntmps16
  go_upto_region 2 with (fail)
  go_cut [14] (fun v14 wc => ∃ (kq : Nat) (x14_2 : Bool), v14 = .bool x14_2 ∧ Aside0 (riverbankref05_All.j0 kq a0 a1 ([] : List Int) x14_2 = some r) ∧ Aside0 (kq ≤ k) ∧ Aside0 (Kd.R (Kd.int .i64) 3 wc w.heap.size (fun _ => True) (.slice none 0 0) ([] : List Int)) ∧ Aside0 (Below w.heap.size w wc))
  case first =>
    have H := HC3.out
    clear HC3
    replace H := Option.bind_eq_some_iff.mp H
    obtain ⟨t296, A40, H⟩ := H
    replace H : (if t296 = true then ((riverbankref05_real.f a1).bind fun t297 => (riverbankref05_All.j0 k a0 a1 ([] : List Int) (!t297))) else (riverbankref05_All.j0 k a0 a1 ([] : List Int) true)) = some r := H
    have A4 := Aside0.mk A40
    clear A40
    by_cases c5 : t296 = true
    · subst c5
      have H1 : ((riverbankref05_real.f a1).bind fun t297 => (riverbankref05_All.j0 k a0 a1 ([] : List Int) (!t297))) = some r := by rw [if_pos rfl] at H; exact H
      clear H
      have H := H1
      clear H1
      replace H := Option.bind_eq_some_iff.mp H
      obtain ⟨t297, A60, H⟩ := H
      replace H : (riverbankref05_All.j0 k a0 a1 ([] : List Int) (!t297)) = some r := H
      have A6 := Aside0.mk A60
      clear A60
      have H' := Aside0.mk H
      clear H
      go_wp2_with (first | ((with_reducible refine gate_callee (f := 47) rfl ?_); refine goesL_ (some 8) rfl rfl Try.func47 (by kernel_rfl) rfl #[.string a0] rfl (by (try simp only [List.map_toArray, List.map_cons, List.map_nil]); first | done | rfl | (simp only [List.length_drop, List.length_take]; rfl)) ?_; (with_reducible refine (riverbankref02_Is.calls k a0 true _ A4.out).mono ?_); rintro e w' ⟨rfl, ⟨nd, rfl⟩⟩; refine ⟨_, rfl, ?_⟩) | (go_at_call 48; (with_reducible refine (riverbankref05_real.calls a1 t297 _ A6.out).mono ?_); rintro e w' ⟨rfl, ⟨nd, rfl⟩⟩))
      go_meet
      case rel => exact ⟨_, (!t297), (by first | rfl | (simp; done) | (simp [*]; done)), H', ⟨by first | omega | exact Nat.le_refl _⟩, ⟨by first | exact Kd.R_nil _ _ _ _ _ | exact Kd.N_nil _ _ _ _ _ | exact Kd.V_nil _ _ _ _ _ | exact Kd.Q_nil _ _ _ _ _ | exact Kd.S_nil _ _ _ _ _⟩, ⟨by repeat (first | (with_reducible first | exact HB.out | apply below_alloc | apply pw_below_drewN | apply below_drew1) | exact HB.out)⟩⟩
    · replace c5 := Bool.eq_false_iff.mpr c5
      subst c5
      have H1 : (riverbankref05_All.j0 k a0 a1 ([] : List Int) true) = some r := by rw [if_neg (show ¬ (false = true) by decide)] at H; exact H
      clear H
      have H := H1
      clear H1
      have H' := Aside0.mk H
      clear H
      go_wp2_with (first | ((with_reducible refine gate_callee (f := 47) rfl ?_); refine goesL_ (some 8) rfl rfl Try.func47 (by kernel_rfl) rfl #[.string a0] rfl (by (try simp only [List.map_toArray, List.map_cons, List.map_nil]); first | done | rfl | (simp only [List.length_drop, List.length_take]; rfl)) ?_; (with_reducible refine (riverbankref02_Is.calls k a0 false _ A4.out).mono ?_); rintro e w' ⟨rfl, ⟨nd, rfl⟩⟩; refine ⟨_, rfl, ?_⟩))
      go_meet
      case rel => exact ⟨_, (true), (by first | rfl | (simp; done) | (simp [*]; done)), H', ⟨by first | omega | exact Nat.le_refl _⟩, ⟨by first | exact Kd.R_nil _ _ _ _ _ | exact Kd.N_nil _ _ _ _ _ | exact Kd.V_nil _ _ _ _ _ | exact Kd.Q_nil _ _ _ _ _ | exact Kd.S_nil _ _ _ _ _⟩, ⟨by repeat (first | (with_reducible first | exact HB.out | apply below_alloc | apply pw_below_drewN | apply below_drew1) | exact HB.out)⟩⟩
  case rest =>
    clear HC3
    try clear c1
    try clear p2
    try clear c4
    try clear c5
    obtain ⟨kq, x14_2, rfl, HA, HJ2, HO_5, HB⟩ := hcut
    cases kq with
    | zero => exact absurd HA.out (by simp [riverbankref05_All.j0])
    | succ kj2 =>
      have H := HA.out
      clear HA
      simp only [riverbankref05_All.j0] at H
      by_cases c7 : x14_2 = true
      · subst c7
        have H1 : (some ([] : List Int)) = some r := by rw [if_pos rfl] at H; exact H
        clear H
        have H := H1
        clear H1
        obtain rfl := Option.some.inj H
        go_wp2
        go_ret
        exact ⟨_, by first | rfl | (simp [errW_none, errW_some] <;> rfl) | (simp [*, errW_none, errW_some] <;> rfl), by first | exact Kd.R_nil _ _ _ _ _ | exact Kd.N_nil _ _ _ _ _ | exact Kd.V_nil _ _ _ _ _ | exact Kd.Q_nil _ _ _ _ _ | exact Kd.S_nil _ _ _ _ _, by repeat (first | (with_reducible first | exact HB.out | apply below_alloc | apply pw_below_drewN | apply below_drew1) | exact HB.out)⟩
      · replace c7 := Bool.eq_false_iff.mpr c7
        subst c7
        have H1 : (riverbankref05_All.l0 kj2 a0 a1 ([] : List Int) 0) = some r := by rw [if_neg (show ¬ (false = true) by decide)] at H; exact H
        clear H
        have H := H1
        clear H1
        have H' := Aside0.mk H
        clear H
        go_wp2
        go_loopg [5, 6] kj2 (fun kq v5 v6 w' => ∃ (x5_2 : List Int) (x6_2 : Int), v6 = .int .i64 x6_2 ∧ Aside0 (riverbankref05_All.l0 kq a0 a1 x5_2 x6_2 = some r) ∧ Aside0 (kq ≤ kj2) ∧ Aside0 (Kd.R (Kd.int .i64) 3 w' w.heap.size (fun _ => True) v5 x5_2) ∧ Aside0 (Below w.heap.size w w'))
        case atStart => exact ⟨(([] : List Int)), (0), (by first | rfl | (simp; done) | (simp [*]; done)), H', ⟨Nat.le_refl _⟩, ⟨by (with_reducible repeat (first | apply Kd.R_alloc | apply Kd.R_drewN | apply Kd.R_drew)); exact HO_5.out⟩, ⟨by repeat (first | (with_reducible first | exact HB.out | apply below_alloc | apply pw_below_drewN | apply below_drew1) | exact HB.out)⟩⟩
        case round =>
          clear H'
          try clear c1
          try clear p2
          try clear c4
          try clear c5
          try clear c7
          try clear p2
          obtain ⟨x5_2, x6_2, rfl, HA, HK2, HO_5, HB⟩ := hrel
          cases gk with
          | zero => exact absurd HA.out (by simp [riverbankref05_All.l0])
          | succ k2 =>
            have H := HA.out
            clear HA
            simp only [riverbankref05_All.l0] at H
            by_cases c8 : x6_2 < 90
            · rw [if_pos c8] at H
              have c8b0 : decide (x6_2 < 90) = true := decide_eq_true c8
              clear c8
              replace H := Option.bind_eq_some_iff.mp H
              obtain ⟨t298, A90, H⟩ := H
              replace H : (if t298 = true then (if x5_2.length < 17592186044416 then (riverbankref05_All.l0 k2 a0 a1 (x5_2 ++ [x6_2]) (wrap64 (x6_2 + 1))) else (none)) else (riverbankref05_All.l0 k2 a0 a1 x5_2 (wrap64 (x6_2 + 1)))) = some r := H
              have A9 := Aside0.mk A90
              clear A90
              by_cases c10 : t298 = true
              · subst c10
                have H1 : (if x5_2.length < 17592186044416 then (riverbankref05_All.l0 k2 a0 a1 (x5_2 ++ [x6_2]) (wrap64 (x6_2 + 1))) else (none)) = some r := by rw [if_pos rfl] at H; exact H
                clear H
                have H := H1
                clear H1
                by_cases c11 : x5_2.length < 17592186044416
                · rw [if_pos c11] at H
                  have LMc11 := Aside0.mk c11
                  clear c11
                  obtain ⟨y299, hy299⟩ : ∃ y_ : List Int, y_ = (x5_2 ++ [x6_2]) := ⟨_, rfl⟩
                  replace H : (riverbankref05_All.l0 k2 a0 a1 y299 (wrap64 (x6_2 + 1))) = some r := by first | (rw [hy299]; with_reducible exact H) | (have H2_ := (Option.bind_some _ _).symm.trans H; rw [hy299]; with_reducible exact H2_) | (have H2_ := (Option.bind_some _ _).symm.trans H; with_reducible exact H2_) | with_reducible exact H | (rw [hy299]; exact H) | exact H
                  have Ny299 := Aside0.mk hy299
                  clear hy299
                  have H' := Aside0.mk H
                  clear H
                  go_wp2_with (first | ((with_reducible refine gate_callee (f := 49) rfl ?_); refine goesL_ (some 22) rfl rfl Try.func49 (by kernel_rfl) rfl #[.string a0, .int .i64 a1, .int .i64 x6_2] rfl (by (try simp only [List.map_toArray, List.map_cons, List.map_nil]); first | done | rfl | (simp only [List.length_drop, List.length_take]; rfl)) ?_; (with_reducible refine (riverbankref05_Fast.calls k2 a0 a1 x6_2 true _ A9.out).mono ?_); rintro e w12 ⟨rfl, hb⟩; refine ⟨_, rfl, ?_⟩; have n0_ := Aside0.mk (Kd.R_below (by (with_reducible repeat (first | apply Kd.R_alloc | apply Kd.R_drewN | apply Kd.R_drew)); exact HO_5.out) hb); have n1_ := Aside0.mk (below_step (by repeat (first | (with_reducible first | exact HB.out | apply below_alloc | apply pw_below_drewN | apply below_drew1) | exact HB.out)) hb); clear HO_5; clear HB; have HO_5 := n0_; have HB := n1_; clear n0_ n1_; (try clear hb); (try clear hb2); (try clear hk); (try clear hi)) | ((with_reducible refine gate_builtin (b := .append) (xs := #[.tmp 23, .tmp 25]) rfl ?_); at_builtin; refine Kd.R_append (Kd.int .i64) (w0 := w) w.heap.size rfl (.tmp 23) (.tmp 25) 24 3 (.int .i64 0) 8 rfl Try.underlying24 info3 rfl (by decide) (by omega) u5 x5_2 x6_2 [.int .i64 x6_2] (fun _ => True) (fun _ => False) rfl rfl ?aP (fun _ hk => hk.elim) ?aF ?aO ?aB ?aS ?aL ?_; (case aP => exact rfl); (case aB => exact (by repeat (first | (with_reducible first | exact HB.out | apply below_alloc | apply pw_below_drewN | apply below_drew1) | exact HB.out))); (case aF => exact (fun _ _ => trivial)); (case aO => exact (by (with_reducible repeat (first | apply Kd.R_alloc | apply Kd.R_drewN | apply Kd.R_drew)); exact HO_5.out)); (case aS => exact (below_size (by repeat (first | (with_reducible first | exact HB.out | apply below_alloc | apply pw_below_drewN | apply below_drew1) | exact HB.out)))); (case aL => have := LMc11.out; omega); intro v300 w13 ho hb hg hat; rw [← Ny299.out] at ho; have n0_ := Aside0.mk (hb); have n1_ := Aside0.mk (ho); clear HB; clear HO_5; have HB := n0_; have HO301 := n1_; clear n0_ n1_; clear ho hb hg hat))
                  go_roundg k2
                  case measure => have := HJ2.out; have := HK2.out; omega
                  case rel => exact ⟨(y299), (wrap64 (x6_2 + 1)), (by first | rfl | (simp; done) | (simp [*]; done)), H', ⟨by have := HJ2.out; have := HK2.out; omega⟩, ⟨by (with_reducible repeat (first | apply Kd.R_alloc | apply Kd.R_drewN | apply Kd.R_drew)); exact HO301.out⟩, ⟨by repeat (first | (with_reducible first | exact HB.out | apply below_alloc | apply pw_below_drewN | apply below_drew1) | exact HB.out)⟩⟩
                · rw [if_neg c11] at H
                  exact absurd H (by simp)
              · replace c10 := Bool.eq_false_iff.mpr c10
                subst c10
                have H1 : (riverbankref05_All.l0 k2 a0 a1 x5_2 (wrap64 (x6_2 + 1))) = some r := by rw [if_neg (show ¬ (false = true) by decide)] at H; exact H
                clear H
                have H := H1
                clear H1
                have H' := Aside0.mk H
                clear H
                go_wp2_with (first | ((with_reducible refine gate_callee (f := 49) rfl ?_); refine goesL_ (some 22) rfl rfl Try.func49 (by kernel_rfl) rfl #[.string a0, .int .i64 a1, .int .i64 x6_2] rfl (by (try simp only [List.map_toArray, List.map_cons, List.map_nil]); first | done | rfl | (simp only [List.length_drop, List.length_take]; rfl)) ?_; (with_reducible refine (riverbankref05_Fast.calls k2 a0 a1 x6_2 false _ A9.out).mono ?_); rintro e w14 ⟨rfl, hb⟩; refine ⟨_, rfl, ?_⟩; have n0_ := Aside0.mk (Kd.R_below (by (with_reducible repeat (first | apply Kd.R_alloc | apply Kd.R_drewN | apply Kd.R_drew)); exact HO_5.out) hb); have n1_ := Aside0.mk (below_step (by repeat (first | (with_reducible first | exact HB.out | apply below_alloc | apply pw_below_drewN | apply below_drew1) | exact HB.out)) hb); clear HO_5; clear HB; have HO_5 := n0_; have HB := n1_; clear n0_ n1_; (try clear hb); (try clear hb2); (try clear hk); (try clear hi)))
                go_roundg k2
                case measure => have := HJ2.out; have := HK2.out; omega
                case rel => exact ⟨(x5_2), (wrap64 (x6_2 + 1)), (by first | rfl | (simp; done) | (simp [*]; done)), H', ⟨by have := HJ2.out; have := HK2.out; omega⟩, ⟨by (with_reducible repeat (first | apply Kd.R_alloc | apply Kd.R_drewN | apply Kd.R_drew)); exact HO_5.out⟩, ⟨by repeat (first | (with_reducible first | exact HB.out | apply below_alloc | apply pw_below_drewN | apply below_drew1) | exact HB.out)⟩⟩
            · rw [if_neg c8] at H
              have c8b0 : decide (x6_2 < 90) = false := decide_eq_false c8
              clear c8
              obtain rfl := Option.some.inj H
              go_wp2
              go_ret
              exact ⟨_, by first | rfl | (simp [errW_none, errW_some] <;> rfl) | (simp [*, errW_none, errW_some] <;> rfl), by (with_reducible repeat (first | apply Kd.R_alloc | apply Kd.R_drewN | apply Kd.R_drew)); exact HO_5.out, by repeat (first | (with_reducible first | exact HB.out | apply below_alloc | apply pw_below_drewN | apply below_drew1) | exact HB.out)⟩

/-! ### riverbankref05_Can: function 18 -/
def riverbankref05_Can.f (k : Nat) (a0 : ByteArray) (a1 : Int) (a2 : Int) : Option (Bool) := (riverbankref02_Is.f k a0).bind fun t302 => (if t302 = true then ((riverbankref05_real.f a1).bind fun t303 => (if t303 = true then ((riverbankref05_real.f a2).bind fun t304 => (if t304 = true then ((riverbankref05_Fast.f k a0 a1 a2).bind fun t305 => (some t305)) else (some false))) else (some false))) else (some false))
theorem riverbankref05_Can.mono : ∀ a0 a1 a2 k, LeO (riverbankref05_Can.f k a0 a1 a2) (riverbankref05_Can.f (k + 1) a0 a1 a2) := by
  intro a0 a1 a2 k
  unfold riverbankref05_Can.f
  repeat' first
      | (with_reducible exact riverbankref02_Is.mono _ _)
      | (with_reducible exact riverbankref05_Fast.mono _ _ _ _)
      | (with_reducible exact LeO.refl _)
      | (with_reducible exact LeO.none _)
      | (with_reducible refine LeO.ite ?_ ?_)
      | (with_reducible refine LeO.bind ?_ (fun _ => ?_))
      | exact riverbankref02_Is.mono _ _
      | exact riverbankref05_Fast.mono _ _ _ _
      | exact LeO.none _
      | refine LeO.ite ?_ ?_
      | refine LeO.bind ?_ (fun _ => ?_)
set_option maxHeartbeats 8000000 in
set_option maxRecDepth 100000 in
theorem riverbankref05_Can.calls (k : Nat) (a0 : ByteArray) (a1 : Int) (a2 : Int) (r : Bool) (w : World) (h : riverbankref05_Can.f k a0 a1 a2 = some r) :
    Calls Try.prog 18 #[.string a0, .int .i64 a1, .int .i64 a2] w fun e w' => e = .returned (.bool r) ∧ Below w.heap.size w w' := by
  have HB := Aside0.mk (Below.refl w.heap.size w)
  have H : ((riverbankref02_Is.f k a0).bind fun t302 => (if t302 = true then ((riverbankref05_real.f a1).bind fun t303 => (if t303 = true then ((riverbankref05_real.f a2).bind fun t304 => (if t304 = true then ((riverbankref05_Fast.f k a0 a1 a2).bind fun t305 => (some t305)) else (some false))) else (some false))) else (some false))) = some r := h
  clear h
  replace H := Option.bind_eq_some_iff.mp H
  obtain ⟨t302, A40, H⟩ := H
  replace H : (if t302 = true then ((riverbankref05_real.f a1).bind fun t303 => (if t303 = true then ((riverbankref05_real.f a2).bind fun t304 => (if t304 = true then ((riverbankref05_Fast.f k a0 a1 a2).bind fun t305 => (some t305)) else (some false))) else (some false))) else (some false)) = some r := H
  have A4 := Aside0.mk A40
  clear A40
  by_cases c5 : t302 = true
  · subst c5
    have H1 : ((riverbankref05_real.f a1).bind fun t303 => (if t303 = true then ((riverbankref05_real.f a2).bind fun t304 => (if t304 = true then ((riverbankref05_Fast.f k a0 a1 a2).bind fun t305 => (some t305)) else (some false))) else (some false))) = some r := by rw [if_pos rfl] at H; exact H
    clear H
    have H := H1
    clear H1
    replace H := Option.bind_eq_some_iff.mp H
    obtain ⟨t303, A60, H⟩ := H
    replace H : (if t303 = true then ((riverbankref05_real.f a2).bind fun t304 => (if t304 = true then ((riverbankref05_Fast.f k a0 a1 a2).bind fun t305 => (some t305)) else (some false))) else (some false)) = some r := H
    have A6 := Aside0.mk A60
    clear A60
    by_cases c7 : t303 = true
    · subst c7
      have H1 : ((riverbankref05_real.f a2).bind fun t304 => (if t304 = true then ((riverbankref05_Fast.f k a0 a1 a2).bind fun t305 => (some t305)) else (some false))) = some r := by rw [if_pos rfl] at H; exact H
      clear H
      have H := H1
      clear H1
      replace H := Option.bind_eq_some_iff.mp H
      obtain ⟨t304, A80, H⟩ := H
      replace H : (if t304 = true then ((riverbankref05_Fast.f k a0 a1 a2).bind fun t305 => (some t305)) else (some false)) = some r := H
      have A8 := Aside0.mk A80
      clear A80
      by_cases c9 : t304 = true
      · subst c9
        have H1 : ((riverbankref05_Fast.f k a0 a1 a2).bind fun t305 => (some t305)) = some r := by rw [if_pos rfl] at H; exact H
        clear H
        have H := H1
        clear H1
        replace H := Option.bind_eq_some_iff.mp H
        obtain ⟨t305, A100, H⟩ := H
        replace H : (some t305) = some r := H
        have A10 := Aside0.mk A100
        clear A100
        obtain rfl := Option.some.inj H
        go_enter Try.func18, Try.ntmps18
        go_wp2_with (first | ((with_reducible refine gate_callee (f := 47) rfl ?_); refine goesL_ (some 8) rfl rfl Try.func47 (by kernel_rfl) rfl #[.string a0] rfl (by (try simp only [List.map_toArray, List.map_cons, List.map_nil]); first | done | rfl | (simp only [List.length_drop, List.length_take]; rfl)) ?_; (with_reducible refine (riverbankref02_Is.calls k a0 true _ A4.out).mono ?_); rintro e w' ⟨rfl, ⟨nd, rfl⟩⟩; refine ⟨_, rfl, ?_⟩) | (go_at_call 48; (with_reducible refine (riverbankref05_real.calls a1 true _ A6.out).mono ?_); rintro e w' ⟨rfl, ⟨nd, rfl⟩⟩) | (go_at_call 48; (with_reducible refine (riverbankref05_real.calls a2 true _ A8.out).mono ?_); rintro e w' ⟨rfl, ⟨nd, rfl⟩⟩) | (go_at_call 49; (with_reducible refine (riverbankref05_Fast.calls k a0 a1 a2 t305 _ A10.out).mono ?_); rintro e w11 ⟨rfl, hb⟩; have n0_ := Aside0.mk (below_step (by repeat (first | (with_reducible first | exact HB.out | apply below_alloc | apply pw_below_drewN | apply below_drew1) | exact HB.out)) hb); clear HB; have HB := n0_; clear n0_; (try clear hb); (try clear hb2); (try clear hk); (try clear hi)))
        go_ret
        exact ⟨by first | rfl | (simp [errW_none, errW_some] <;> rfl) | (simp [*, errW_none, errW_some] <;> rfl), by repeat (first | (with_reducible first | exact HB.out | apply below_alloc | apply pw_below_drewN | apply below_drew1) | exact HB.out)⟩
      · replace c9 := Bool.eq_false_iff.mpr c9
        subst c9
        have H1 : (some false) = some r := by rw [if_neg (show ¬ (false = true) by decide)] at H; exact H
        clear H
        have H := H1
        clear H1
        obtain rfl := Option.some.inj H
        go_enter Try.func18, Try.ntmps18
        go_wp2_with (first | ((with_reducible refine gate_callee (f := 47) rfl ?_); refine goesL_ (some 8) rfl rfl Try.func47 (by kernel_rfl) rfl #[.string a0] rfl (by (try simp only [List.map_toArray, List.map_cons, List.map_nil]); first | done | rfl | (simp only [List.length_drop, List.length_take]; rfl)) ?_; (with_reducible refine (riverbankref02_Is.calls k a0 true _ A4.out).mono ?_); rintro e w' ⟨rfl, ⟨nd, rfl⟩⟩; refine ⟨_, rfl, ?_⟩) | (go_at_call 48; (with_reducible refine (riverbankref05_real.calls a1 true _ A6.out).mono ?_); rintro e w' ⟨rfl, ⟨nd, rfl⟩⟩) | (go_at_call 48; (with_reducible refine (riverbankref05_real.calls a2 false _ A8.out).mono ?_); rintro e w' ⟨rfl, ⟨nd, rfl⟩⟩))
        go_ret
        exact ⟨by first | rfl | (simp [errW_none, errW_some] <;> rfl) | (simp [*, errW_none, errW_some] <;> rfl), by repeat (first | (with_reducible first | exact HB.out | apply below_alloc | apply pw_below_drewN | apply below_drew1) | exact HB.out)⟩
    · replace c7 := Bool.eq_false_iff.mpr c7
      subst c7
      have H1 : (some false) = some r := by rw [if_neg (show ¬ (false = true) by decide)] at H; exact H
      clear H
      have H := H1
      clear H1
      obtain rfl := Option.some.inj H
      go_enter Try.func18, Try.ntmps18
      go_wp2_with (first | ((with_reducible refine gate_callee (f := 47) rfl ?_); refine goesL_ (some 8) rfl rfl Try.func47 (by kernel_rfl) rfl #[.string a0] rfl (by (try simp only [List.map_toArray, List.map_cons, List.map_nil]); first | done | rfl | (simp only [List.length_drop, List.length_take]; rfl)) ?_; (with_reducible refine (riverbankref02_Is.calls k a0 true _ A4.out).mono ?_); rintro e w' ⟨rfl, ⟨nd, rfl⟩⟩; refine ⟨_, rfl, ?_⟩) | (go_at_call 48; (with_reducible refine (riverbankref05_real.calls a1 false _ A6.out).mono ?_); rintro e w' ⟨rfl, ⟨nd, rfl⟩⟩))
      go_ret
      exact ⟨by first | rfl | (simp [errW_none, errW_some] <;> rfl) | (simp [*, errW_none, errW_some] <;> rfl), by repeat (first | (with_reducible first | exact HB.out | apply below_alloc | apply pw_below_drewN | apply below_drew1) | exact HB.out)⟩
  · replace c5 := Bool.eq_false_iff.mpr c5
    subst c5
    have H1 : (some false) = some r := by rw [if_neg (show ¬ (false = true) by decide)] at H; exact H
    clear H
    have H := H1
    clear H1
    obtain rfl := Option.some.inj H
    go_enter Try.func18, Try.ntmps18
    go_wp2_with (first | ((with_reducible refine gate_callee (f := 47) rfl ?_); refine goesL_ (some 8) rfl rfl Try.func47 (by kernel_rfl) rfl #[.string a0] rfl (by (try simp only [List.map_toArray, List.map_cons, List.map_nil]); first | done | rfl | (simp only [List.length_drop, List.length_take]; rfl)) ?_; (with_reducible refine (riverbankref02_Is.calls k a0 false _ A4.out).mono ?_); rintro e w' ⟨rfl, ⟨nd, rfl⟩⟩; refine ⟨_, rfl, ?_⟩))
    go_ret
    exact ⟨by first | rfl | (simp [errW_none, errW_some] <;> rfl) | (simp [*, errW_none, errW_some] <;> rfl), by repeat (first | (with_reducible first | exact HB.out | apply below_alloc | apply pw_below_drewN | apply below_drew1) | exact HB.out)⟩

/-! ### riverbankref05_Between: function 20 -/
def riverbankref05_Between.f (k : Nat) (a0 : ByteArray) (a1 : Int) (a2 : Int) : Option (Int) := (riverbankref02_Is.f k a0).bind fun t306 => (if t306 = true then ((riverbankref05_real.f a1).bind fun t307 => (if t307 = true then ((riverbankref05_real.f a2).bind fun t308 => (if t308 = true then ((riverbankref05_between.f k a0 a1 a2).bind fun t309 => (some t309)) else (some (-1)))) else (some (-1)))) else (some (-1)))
theorem riverbankref05_Between.mono : ∀ a0 a1 a2 k, LeO (riverbankref05_Between.f k a0 a1 a2) (riverbankref05_Between.f (k + 1) a0 a1 a2) := by
  intro a0 a1 a2 k
  unfold riverbankref05_Between.f
  repeat' first
      | (with_reducible exact riverbankref02_Is.mono _ _)
      | (with_reducible exact riverbankref05_between.mono _ _ _ _)
      | (with_reducible exact LeO.refl _)
      | (with_reducible exact LeO.none _)
      | (with_reducible refine LeO.ite ?_ ?_)
      | (with_reducible refine LeO.bind ?_ (fun _ => ?_))
      | exact riverbankref02_Is.mono _ _
      | exact riverbankref05_between.mono _ _ _ _
      | exact LeO.none _
      | refine LeO.ite ?_ ?_
      | refine LeO.bind ?_ (fun _ => ?_)
set_option maxHeartbeats 8000000 in
set_option maxRecDepth 100000 in
theorem riverbankref05_Between.calls (k : Nat) (a0 : ByteArray) (a1 : Int) (a2 : Int) (r : Int) (w : World) (h : riverbankref05_Between.f k a0 a1 a2 = some r) :
    Calls Try.prog 20 #[.string a0, .int .i64 a1, .int .i64 a2] w fun e w' => e = .returned (.int .i64 r) ∧ Below w.heap.size w w' := by
  have HB := Aside0.mk (Below.refl w.heap.size w)
  have H : ((riverbankref02_Is.f k a0).bind fun t306 => (if t306 = true then ((riverbankref05_real.f a1).bind fun t307 => (if t307 = true then ((riverbankref05_real.f a2).bind fun t308 => (if t308 = true then ((riverbankref05_between.f k a0 a1 a2).bind fun t309 => (some t309)) else (some (-1)))) else (some (-1)))) else (some (-1)))) = some r := h
  clear h
  replace H := Option.bind_eq_some_iff.mp H
  obtain ⟨t306, A40, H⟩ := H
  replace H : (if t306 = true then ((riverbankref05_real.f a1).bind fun t307 => (if t307 = true then ((riverbankref05_real.f a2).bind fun t308 => (if t308 = true then ((riverbankref05_between.f k a0 a1 a2).bind fun t309 => (some t309)) else (some (-1)))) else (some (-1)))) else (some (-1))) = some r := H
  have A4 := Aside0.mk A40
  clear A40
  by_cases c5 : t306 = true
  · subst c5
    have H1 : ((riverbankref05_real.f a1).bind fun t307 => (if t307 = true then ((riverbankref05_real.f a2).bind fun t308 => (if t308 = true then ((riverbankref05_between.f k a0 a1 a2).bind fun t309 => (some t309)) else (some (-1)))) else (some (-1)))) = some r := by rw [if_pos rfl] at H; exact H
    clear H
    have H := H1
    clear H1
    replace H := Option.bind_eq_some_iff.mp H
    obtain ⟨t307, A60, H⟩ := H
    replace H : (if t307 = true then ((riverbankref05_real.f a2).bind fun t308 => (if t308 = true then ((riverbankref05_between.f k a0 a1 a2).bind fun t309 => (some t309)) else (some (-1)))) else (some (-1))) = some r := H
    have A6 := Aside0.mk A60
    clear A60
    by_cases c7 : t307 = true
    · subst c7
      have H1 : ((riverbankref05_real.f a2).bind fun t308 => (if t308 = true then ((riverbankref05_between.f k a0 a1 a2).bind fun t309 => (some t309)) else (some (-1)))) = some r := by rw [if_pos rfl] at H; exact H
      clear H
      have H := H1
      clear H1
      replace H := Option.bind_eq_some_iff.mp H
      obtain ⟨t308, A80, H⟩ := H
      replace H : (if t308 = true then ((riverbankref05_between.f k a0 a1 a2).bind fun t309 => (some t309)) else (some (-1))) = some r := H
      have A8 := Aside0.mk A80
      clear A80
      by_cases c9 : t308 = true
      · subst c9
        have H1 : ((riverbankref05_between.f k a0 a1 a2).bind fun t309 => (some t309)) = some r := by rw [if_pos rfl] at H; exact H
        clear H
        have H := H1
        clear H1
        replace H := Option.bind_eq_some_iff.mp H
        obtain ⟨t309, A100, H⟩ := H
        replace H : (some t309) = some r := H
        have A10 := Aside0.mk A100
        clear A100
        obtain rfl := Option.some.inj H
        go_enter Try.func20, Try.ntmps20
        go_wp2_with (first | ((with_reducible refine gate_callee (f := 47) rfl ?_); refine goesL_ (some 8) rfl rfl Try.func47 (by kernel_rfl) rfl #[.string a0] rfl (by (try simp only [List.map_toArray, List.map_cons, List.map_nil]); first | done | rfl | (simp only [List.length_drop, List.length_take]; rfl)) ?_; (with_reducible refine (riverbankref02_Is.calls k a0 true _ A4.out).mono ?_); rintro e w' ⟨rfl, ⟨nd, rfl⟩⟩; refine ⟨_, rfl, ?_⟩) | (go_at_call 48; (with_reducible refine (riverbankref05_real.calls a1 true _ A6.out).mono ?_); rintro e w' ⟨rfl, ⟨nd, rfl⟩⟩) | (go_at_call 48; (with_reducible refine (riverbankref05_real.calls a2 true _ A8.out).mono ?_); rintro e w' ⟨rfl, ⟨nd, rfl⟩⟩) | ((with_reducible refine gate_callee (f := 52) rfl ?_); refine goesL_ (some 23) rfl rfl Try.func52 (by kernel_rfl) rfl #[.string a0, .int .i64 a1, .int .i64 a2] rfl (by (try simp only [List.map_toArray, List.map_cons, List.map_nil]); first | done | rfl | (simp only [List.length_drop, List.length_take]; rfl)) ?_; (with_reducible refine (riverbankref05_between.calls k a0 a1 a2 t309 _ A10.out).mono ?_); rintro e w11 ⟨rfl, hb⟩; refine ⟨_, rfl, ?_⟩; have n0_ := Aside0.mk (below_step (by repeat (first | (with_reducible first | exact HB.out | apply below_alloc | apply pw_below_drewN | apply below_drew1) | exact HB.out)) hb); clear HB; have HB := n0_; clear n0_; (try clear hb); (try clear hb2); (try clear hk); (try clear hi)))
        go_ret
        exact ⟨by first | rfl | (simp [errW_none, errW_some] <;> rfl) | (simp [*, errW_none, errW_some] <;> rfl), by repeat (first | (with_reducible first | exact HB.out | apply below_alloc | apply pw_below_drewN | apply below_drew1) | exact HB.out)⟩
      · replace c9 := Bool.eq_false_iff.mpr c9
        subst c9
        have H1 : (some (-1)) = some r := by rw [if_neg (show ¬ (false = true) by decide)] at H; exact H
        clear H
        have H := H1
        clear H1
        obtain rfl := Option.some.inj H
        go_enter Try.func20, Try.ntmps20
        go_wp2_with (first | ((with_reducible refine gate_callee (f := 47) rfl ?_); refine goesL_ (some 8) rfl rfl Try.func47 (by kernel_rfl) rfl #[.string a0] rfl (by (try simp only [List.map_toArray, List.map_cons, List.map_nil]); first | done | rfl | (simp only [List.length_drop, List.length_take]; rfl)) ?_; (with_reducible refine (riverbankref02_Is.calls k a0 true _ A4.out).mono ?_); rintro e w' ⟨rfl, ⟨nd, rfl⟩⟩; refine ⟨_, rfl, ?_⟩) | (go_at_call 48; (with_reducible refine (riverbankref05_real.calls a1 true _ A6.out).mono ?_); rintro e w' ⟨rfl, ⟨nd, rfl⟩⟩) | (go_at_call 48; (with_reducible refine (riverbankref05_real.calls a2 false _ A8.out).mono ?_); rintro e w' ⟨rfl, ⟨nd, rfl⟩⟩))
        go_ret
        exact ⟨by first | rfl | (simp [errW_none, errW_some] <;> rfl) | (simp [*, errW_none, errW_some] <;> rfl), by repeat (first | (with_reducible first | exact HB.out | apply below_alloc | apply pw_below_drewN | apply below_drew1) | exact HB.out)⟩
    · replace c7 := Bool.eq_false_iff.mpr c7
      subst c7
      have H1 : (some (-1)) = some r := by rw [if_neg (show ¬ (false = true) by decide)] at H; exact H
      clear H
      have H := H1
      clear H1
      obtain rfl := Option.some.inj H
      go_enter Try.func20, Try.ntmps20
      go_wp2_with (first | ((with_reducible refine gate_callee (f := 47) rfl ?_); refine goesL_ (some 8) rfl rfl Try.func47 (by kernel_rfl) rfl #[.string a0] rfl (by (try simp only [List.map_toArray, List.map_cons, List.map_nil]); first | done | rfl | (simp only [List.length_drop, List.length_take]; rfl)) ?_; (with_reducible refine (riverbankref02_Is.calls k a0 true _ A4.out).mono ?_); rintro e w' ⟨rfl, ⟨nd, rfl⟩⟩; refine ⟨_, rfl, ?_⟩) | (go_at_call 48; (with_reducible refine (riverbankref05_real.calls a1 false _ A6.out).mono ?_); rintro e w' ⟨rfl, ⟨nd, rfl⟩⟩))
      go_ret
      exact ⟨by first | rfl | (simp [errW_none, errW_some] <;> rfl) | (simp [*, errW_none, errW_some] <;> rfl), by repeat (first | (with_reducible first | exact HB.out | apply below_alloc | apply pw_below_drewN | apply below_drew1) | exact HB.out)⟩
  · replace c5 := Bool.eq_false_iff.mpr c5
    subst c5
    have H1 : (some (-1)) = some r := by rw [if_neg (show ¬ (false = true) by decide)] at H; exact H
    clear H
    have H := H1
    clear H1
    obtain rfl := Option.some.inj H
    go_enter Try.func20, Try.ntmps20
    go_wp2_with (first | ((with_reducible refine gate_callee (f := 47) rfl ?_); refine goesL_ (some 8) rfl rfl Try.func47 (by kernel_rfl) rfl #[.string a0] rfl (by (try simp only [List.map_toArray, List.map_cons, List.map_nil]); first | done | rfl | (simp only [List.length_drop, List.length_take]; rfl)) ?_; (with_reducible refine (riverbankref02_Is.calls k a0 false _ A4.out).mono ?_); rintro e w' ⟨rfl, ⟨nd, rfl⟩⟩; refine ⟨_, rfl, ?_⟩))
    go_ret
    exact ⟨by first | rfl | (simp [errW_none, errW_some] <;> rfl) | (simp [*, errW_none, errW_some] <;> rfl), by repeat (first | (with_reducible first | exact HB.out | apply below_alloc | apply pw_below_drewN | apply below_drew1) | exact HB.out)⟩

end Go.Proofs.Ytcanbidenhcohaa.P

/- Plain law: pieces, squares, and where a piece reaches: the document's answer over a board as a function from squares to bytes. -/
namespace Go.Proofs.Ytcanbidenhcohaa.Sp

def isRed (x : Nat) : Bool := x == 75 || x == 65 || x == 66 || x == 78 || x == 82 || x == 67 || x == 80
def isBlack (x : Nat) : Bool := x == 107 || x == 97 || x == 98 || x == 110 || x == 114 || x == 99 || x == 112
def sideN (x : Nat) : Int := if isRed x then 0 else if isBlack x then 1 else -1
def kindN (x : Nat) : Nat := if isRed x then x else if isBlack x then x - 32 else 0
/-- The fifteen bytes of a board. -/
def letters : List Nat := [46, 75, 65, 66, 78, 82, 67, 80, 107, 97, 98, 110, 114, 99, 112]
theorem cellB_mem : ∀ x, cellB x = true → x ∈ letters := by
  intro x h
  simp only [cellB, Bool.or_eq_true, beq_iff_eq] at h
  simp only [letters, List.mem_cons, List.not_mem_nil, or_false]
  omega

/-- A square's rank from a side's own. -/
def ownR (n : Nat) (side : Int) : Nat := if side = 1 then 9 - n / 9 else n / 9
def palaceN (n : Nat) (side : Int) : Bool := decide (3 ≤ n % 9) && decide (n % 9 ≤ 5) && decide (ownR n side ≤ 2)
def overN (n : Nat) (side : Int) : Bool := decide (5 ≤ ownR n side)
def mayN (x n : Nat) : Bool :=
  if sideN x < 0 then false
  else if kindN x = 75 then palaceN n (sideN x)
  else if kindN x = 65 then (n % 9 == 4 && ownR n (sideN x) == 1) || ((n % 9 == 3 || n % 9 == 5) && (ownR n (sideN x) == 0 || ownR n (sideN x) == 2))
  else if kindN x = 66 then ((ownR n (sideN x) == 0 || ownR n (sideN x) == 4) && (n % 9 == 2 || n % 9 == 6)) || (ownR n (sideN x) == 2 && (n % 9 == 0 || n % 9 == 4 || n % 9 == 8))
  else if kindN x = 80 then decide (5 ≤ ownR n (sideN x)) || (decide (3 ≤ ownR n (sideN x)) && n % 9 % 2 == 0)
  else true

/-- How far two numbers are. -/
def away (a b : Nat) : Nat := if a ≤ b then b - a else a - b
/-- The squares between two of a line, the lesser ones first; none, if they are on no line. -/
def betwL (a b : Nat) : List Nat :=
  if a / 9 = b / 9 then (List.range (away a b - 1)).map (fun i => Nat.min a b + 1 + i)
  else if a % 9 = b % 9 then (List.range (away (a / 9) (b / 9) - 1)).map (fun i => Nat.min a b + 9 * (i + 1))
  else []
/-- How many pieces stand between; -1: on no line, or the same. -/
def betwN (c : Nat → Nat) (a b : Nat) : Int :=
  if a = b then -1 else if a / 9 = b / 9 ∨ a % 9 = b % 9 then ((betwL a b).countP (fun i => c i != 46) : Nat) else -1
/-- The square next to a, towards b, along the longer way of a horse. -/
def legN (a b : Nat) : Nat :=
  if away (a % 9) (b % 9) = 1 then (if b / 9 > a / 9 then a + 9 else a - 9) else (if b % 9 > a % 9 then a + 1 else a - 1)
def horseN (c : Nat → Nat) (a b : Nat) : Bool :=
  ((away (a % 9) (b % 9) == 1 && away (a / 9) (b / 9) == 2) || (away (a % 9) (b % 9) == 2 && away (a / 9) (b / 9) == 1)) && c (legN a b) == 46
def pawnN (side : Int) (a b : Nat) : Bool :=
  (if side = 1 then b + 9 == a else b == a + 9) || (overN a side && a / 9 == b / 9 && away a b == 1)
/-- P5.2, of something on a, nothing of its own on b. -/
def canN (c : Nat → Nat) (a b : Nat) : Bool :=
  if kindN (c a) = 75 then away (a % 9) (b % 9) + away (a / 9) (b / 9) == 1 && mayN (c a) b
  else if kindN (c a) = 65 then away (a % 9) (b % 9) == 1 && away (a / 9) (b / 9) == 1 && mayN (c a) b
  else if kindN (c a) = 66 then away (a % 9) (b % 9) == 2 && away (a / 9) (b / 9) == 2 && mayN (c a) b && c ((a + b) / 2) == 46
  else if kindN (c a) = 78 then horseN c a b
  else if kindN (c a) = 82 then betwN c a b == 0
  else if kindN (c a) = 67 then (betwN c a b == 0 && c b == 46) || (betwN c a b == 1 && c b != 46)
  else pawnN (sideN (c a)) a b
def fastN (c : Nat → Nat) (a b : Nat) : Bool := decide (0 ≤ sideN (c a)) && sideN (c b) != sideN (c a) && canN c a b
def allN (c : Nat → Nat) (a : Nat) : List Nat := (List.range 90).filter (fastN c a)
end Go.Proofs.Ytcanbidenhcohaa.Sp

/- Plain law: sorted lists without repetition; rays; what a line of sight meets first and second. -/
namespace Go.Proofs.Ytcanbidenhcohaa.Sp

/-! ### strictly rising lists -/
theorem rising_eq : ∀ {l l' : List Int}, l.Pairwise (· < ·) → l'.Pairwise (· < ·) → (∀ x, x ∈ l ↔ x ∈ l') → l = l'
  | [], [], _, _, _ => rfl
  | [], y :: l', _, _, h => absurd ((h y).2 List.mem_cons_self) (by simp)
  | x :: l, [], _, _, h => absurd ((h x).1 List.mem_cons_self) (by simp)
  | x :: l, y :: l', h1, h2, h => by
    rw [List.pairwise_cons] at h1 h2
    have hxy : x = y := by
      have a := (h x).1 List.mem_cons_self
      have b := (h y).2 List.mem_cons_self
      rcases List.mem_cons.1 a with a | a
      · exact a
      · rcases List.mem_cons.1 b with b | b
        · exact b.symm
        · have := h1.1 y b
          have := h2.1 x a
          omega
    subst hxy
    congr 1
    refine rising_eq h1.2 h2.2 (fun z => ?_)
    constructor
    · intro hz
      rcases List.mem_cons.1 ((h z).1 (List.mem_cons_of_mem _ hz)) with e | e
      · subst e; exact absurd (h1.1 z hz) (by omega)
      · exact e
    · intro hz
      rcases List.mem_cons.1 ((h z).2 (List.mem_cons_of_mem _ hz)) with e | e
      · subst e; exact absurd (h2.1 z hz) (by omega)
      · exact e

theorem sorted_get {zs : List Int} (h : zs.Pairwise (· ≤ ·)) {i j : Nat} (hij : i ≤ j) (hj : j < zs.length) : zs.toArray[i]! ≤ zs.toArray[j]! := by
  have hi : i < zs.length := by omega
  rw [getElem!_pos zs.toArray i (by simpa using hi), getElem!_pos zs.toArray j (by simpa using hj)]
  simp only [List.getElem_toArray]
  rcases Nat.lt_or_ge i j with h1 | h1
  · exact List.pairwise_iff_getElem.1 h i j hi hj h1
  · have : i = j := by omega
    subst this
    exact Int.le_refl _

theorem compact_mem {zs : List Int} (x : Int) : x ∈ Lib.compact zs ↔ x ∈ zs := by
  unfold Lib.compact Lib.compactUpTo
  rw [List.mem_map]
  constructor
  · rintro ⟨j, hj, rfl⟩
    have hl : j < zs.length := List.mem_range.1 (List.mem_filter.1 hj).1
    rw [getElem!_pos zs.toArray j (by simpa using hl)]
    simp
  · intro hx
    -- the first place of x
    have key : ∀ n, (∃ j, j < n ∧ j < zs.length ∧ zs.toArray[j]! = x) → ∃ j, j < zs.length ∧ zs.toArray[j]! = x ∧ ∀ i, i < j → zs.toArray[i]! ≠ x := by
      intro n
      induction n with
      | zero => rintro ⟨j, hj, _⟩; omega
      | succ n ih =>
        rintro ⟨j, hj, hl, he⟩
        by_cases h : ∃ i, i < n ∧ i < zs.length ∧ zs.toArray[i]! = x
        · exact ih h
        · refine ⟨j, hl, he, fun i hi hix => h ⟨i, ?_, by omega, hix⟩⟩
          omega
    obtain ⟨j, hj, hjx⟩ := List.getElem_of_mem hx
    obtain ⟨j, hl, he, hmin⟩ := key (j + 1) ⟨j, by omega, hj, by rw [getElem!_pos zs.toArray j (by simpa using hj)]; simpa using hjx⟩
    refine ⟨j, List.mem_filter.2 ⟨List.mem_range.2 hl, ?_⟩, he⟩
    by_cases h0 : j = 0
    · subst h0; exact Lib.keeps_lt_one _ 0 (by omega)
    · exact Lib.keeps_pos (by rw [he]; exact Ne.symm (hmin (j - 1) (by omega)))

theorem compact_rising {zs : List Int} (h : zs.Pairwise (· ≤ ·)) : (Lib.compact zs).Pairwise (· < ·) := by
  unfold Lib.compact Lib.compactUpTo
  rw [List.pairwise_map]
  have hr : ((List.range zs.length).filter (Lib.keeps zs.toArray)).Pairwise (· < ·) := List.pairwise_lt_range.filter _
  refine hr.imp_of_mem ?_
  intro i j hi hj hij
  have hjl : j < zs.length := List.mem_range.1 (List.mem_filter.1 hj).1
  have hk := (List.mem_filter.1 hj).2
  have h1 := sorted_get h (i := i) (j := j - 1) (by omega) (by omega)
  have h2 := sorted_get h (i := j - 1) (j := j) (by omega) hjl
  have hne : zs.toArray[j]! ≠ zs.toArray[j - 1]! := by
    intro e
    rw [Lib.keeps_neg (by omega) e] at hk
    cases hk
  omega

/-- What slices.Sort and slices.Compact make of a list of squares. -/
theorem sort_compact (l : List Int) (P : Nat → Bool) (hr : ∀ x ∈ l, 0 ≤ x ∧ x < 90) (h : ∀ t : Nat, t < 90 → ((t : Int) ∈ l ↔ P t = true)) :
    Lib.compact (l.mergeSort fun x y => decide (x ≤ y)) = ((List.range 90).filter P).map (fun n : Nat => (n : Int)) := by
  apply rising_eq
  · apply compact_rising
    have := List.pairwise_mergeSort (le := fun x y : Int => decide (x ≤ y)) (by intro a b c; simp; omega) (by intro a b; simp; omega) l
    exact this.imp (by intro a b; simp)
  · rw [List.pairwise_map]
    exact (List.pairwise_lt_range.filter _).imp (by intro a b hab; omega)
  · intro x
    rw [compact_mem, List.mem_mergeSort, List.mem_map]
    constructor
    · intro hx
      obtain ⟨h0, h1⟩ := hr x hx
      refine ⟨x.toNat, List.mem_filter.2 ⟨List.mem_range.2 (by omega), (h x.toNat (by omega)).1 ?_⟩, by omega⟩
      rw [show ((x.toNat : Nat) : Int) = x from by omega]; exact hx
    · rintro ⟨t, ht, rfl⟩
      obtain ⟨h1, h2⟩ := List.mem_filter.1 ht
      exact (h t (List.mem_range.1 h1)).2 h2

/-! ### what is met first, second -/
section
variable (e : Nat → Bool)
theorem mem_free : ∀ (R : List Nat) (t : Nat), t ∈ R.takeWhile e ↔ ∃ j, R[j]? = some t ∧ (R.take j).countP (fun x => !e x) = 0 ∧ e t = true
  | [], t => by simp
  | x :: R, t => by
    rw [List.takeWhile_cons]
    cases hx : e x with
    | true =>
      rw [if_pos rfl, List.mem_cons, mem_free R t]
      constructor
      · rintro (rfl | ⟨j, h1, h2, h3⟩)
        · exact ⟨0, by simp, by simp, hx⟩
        · exact ⟨j + 1, by simpa using h1, by simpa [hx] using h2, h3⟩
      · rintro ⟨j, h1, h2, h3⟩
        cases j with
        | zero => left; simpa using h1.symm
        | succ j => right; exact ⟨j, by simpa using h1, by simpa [hx] using h2, h3⟩
    | false =>
      rw [if_neg (by simp)]
      constructor
      · intro h; cases h
      · rintro ⟨j, h1, h2, h3⟩
        cases j with
        | zero => simp at h1; subst h1; rw [hx] at h3; cases h3
        | succ j => simp [hx] at h2
theorem mem_first : ∀ (R : List Nat) (t : Nat), (R.dropWhile e).head? = some t ↔ ∃ j, R[j]? = some t ∧ (R.take j).countP (fun x => !e x) = 0 ∧ e t = false
  | [], t => by simp
  | x :: R, t => by
    rw [List.dropWhile_cons]
    cases hx : e x with
    | true =>
      rw [if_pos rfl, mem_first R t]
      constructor
      · rintro ⟨j, h1, h2, h3⟩
        exact ⟨j + 1, by simpa using h1, by simpa [hx] using h2, h3⟩
      · rintro ⟨j, h1, h2, h3⟩
        cases j with
        | zero => simp at h1; subst h1; rw [hx] at h3; cases h3
        | succ j => exact ⟨j, by simpa using h1, by simpa [hx] using h2, h3⟩
    | false =>
      rw [if_neg (by simp)]
      constructor
      · intro h
        simp at h
        subst h
        exact ⟨0, by simp, by simp, hx⟩
      · rintro ⟨j, h1, h2, h3⟩
        cases j with
        | zero => simpa using h1
        | succ j => simp [hx] at h2
theorem mem_second : ∀ (R : List Nat) (t : Nat), ((R.dropWhile e).tail.dropWhile e).head? = some t ↔ ∃ j, R[j]? = some t ∧ (R.take j).countP (fun x => !e x) = 1 ∧ e t = false
  | [], t => by simp
  | x :: R, t => by
    rw [List.dropWhile_cons]
    cases hx : e x with
    | true =>
      rw [if_pos rfl, mem_second R t]
      constructor
      · rintro ⟨j, h1, h2, h3⟩
        exact ⟨j + 1, by simpa using h1, by simpa [hx] using h2, h3⟩
      · rintro ⟨j, h1, h2, h3⟩
        cases j with
        | zero => simp at h2
        | succ j => exact ⟨j, by simpa using h1, by simpa [hx] using h2, h3⟩
    | false =>
      rw [if_neg (by simp), List.tail_cons, mem_first]
      constructor
      · rintro ⟨j, h1, h2, h3⟩
        exact ⟨j + 1, by simpa using h1, by simp [hx, h2], h3⟩
      · rintro ⟨j, h1, h2, h3⟩
        cases j with
        | zero => simp at h2
        | succ j => exact ⟨j, by simpa using h1, by simpa [hx] using h2, h3⟩
end

/-- The square so many files and ranks on; -1: there is none. -/
def stepN (n : Nat) (df dr : Int) : Int :=
  if 0 ≤ ((n % 9 : Nat) : Int) + df ∧ ((n % 9 : Nat) : Int) + df < 9 ∧ 0 ≤ ((n / 9 : Nat) : Int) + dr ∧ ((n / 9 : Nat) : Int) + dr < 10 then 9 * (((n / 9 : Nat) : Int) + dr) + (((n % 9 : Nat) : Int) + df) else -1
def dirs : List (Int × Int) := [(1, 0), (-1, 0), (0, 1), (0, -1)]
/-- The squares of a way, from the next one on. -/
def rayN (n : Nat) : Int × Int → List Nat := fun w => (((List.range 9).map (fun i : Nat => stepN n (((i : Nat) : Int) * w.1 + w.1) (((i : Nat) : Int) * w.2 + w.2))).takeWhile (fun x => decide (0 ≤ x))).map Int.toNat
end Go.Proofs.Ytcanbidenhcohaa.Sp
