/- Walks and plain laws that several statements lean on, joined: no statement of the seat is proved here. -/
import Derived.Test.YtllbkppdkldmiaaGreatDoorB15

/- Walk: the reference's Make (layer 8). -/
namespace Go.Proofs.YtllbkppdkldmiaaGreatDoor.K
open Go.RowKit Go.Lib Go.Proofs.YtllbkppdkldmiaaGreatDoorW.PrintWords Go.Proofs.YtllbkppdkldmiaaGreatDoor.Sp
set_option linter.unusedVariables false
set_option linter.unusedSimpArgs false
theorem apply_size {p : Pos} {m : Mvi} (hck : checkP p = 0) : (applyP p m).1.cells.size ≤ maxLen := by
  cases hg : goodM p m
  · rw [apply_ill hck hg]; show (ByteArray.empty).size ≤ maxLen; unfold maxLen; decide
  · rw [apply_good hck hg]
    simp only
    rw [moved_size, board_size (argOk_yes (checkP_board hck)).1]
    unfold maxLen; omega
theorem make_ref {p : Pos} {m : Mvi} (hw : wellS p = 0) : makeP p m = if (applyP p m).2.2 ≠ 0 then (zeroP, 0, 7) else if safeR (applyP p m).1.cells p.side = false then (zeroP, 0, 7) else applyP p m := by
  have hck := well_check hw
  unfold makeP
  rw [if_neg (by simpa using hw)]
  cases hg : goodM p m
  · rw [safe_ill hck hg, apply_ill hck hg]; rfl
  · rw [safe_good hck hg, apply_good hck hg]
    simp
set_option maxRecDepth 100000 in
set_option maxHeartbeats 4000000 in
theorem rmake8_c (p : Pos) (hmx : p.cells.size ≤ maxLen) (m : Mvi) (w : World) : Calls Tryz.prog 47 #[posV p, mviV m] w (MakeIs w p m) := by
  have HW := Aside0.mk (fun W => rwell_c p hmx W)
  have HAP := Aside0.mk (fun W => rapply_c p hmx m W)
  have hu := Tryz.underlying33
  have hu2 := Tryz.underlying49
  have HA := Aside0.mk (apat_new w p m)
  unfold ApplyIs at HAP
  cases h0 : (wellS p != 0)
  case true =>
    have HR := Aside0.mk (show makeP p m = (zeroP, 0, wellS p) by unfold makeP; rw [if_pos (by simpa using h0)])
    clear HAP hmx
    generalize wellS p = r at *
    go_enter Tryz.func47, Tryz.ntmps47
    go_wp2_with fail
    refine (HW.out _).mono ?_
    rintro e w1 ⟨rfl, hb⟩
    have HB := Aside0.mk (HA.out.below hb)
    clear hb HA
    have fr := HB.out.fr
    have r0 := HB.out.r0
    have r1 := HB.out.r1
    have r2 := HB.out.r2
    have r3 := HB.out.r3
    go_wp2_with fail
    refine bodyPost_ret (by simp [results, Tryz.results47, go_sem, r0, r1, r2, r3]; try rfl) rfl ?_
    exact ⟨by rw [HR.out]; rfl, by (repeat' (first | (with_reducible exact Below.refl _ _) | (with_reducible refine pw_below_drewN ?_ _) | (with_reducible refine below_alloc ?_ _) | (with_reducible refine Below.drew ?_) | (with_reducible refine Below.setCell ?_ ?_ _) | (simp; done))) <;> first | exact HB.out.bel | (simp; done) | (simp; omega)⟩
  case false =>
    have hw : wellS p = 0 := by simpa using h0
    have HR := Aside0.mk (make_ref (p := p) (m := m) hw)
    have hqs := apply_size (m := m) (well_check hw)
    rw [hw] at HW
    generalize applyP p m = r at *
    obtain ⟨q, c, er⟩ := r
    have HSF := Aside0.mk (fun W => rsafe_c q.cells hqs p.side W)
    clear h0 hw hmx hqs
    cases h1 : (er != 0)
    case true =>
      have HR1 := Aside0.mk (show makeP p m = (zeroP, 0, 7) by rw [HR.out, if_pos (by simpa using h1)])
      clear HR HSF
      go_enter Tryz.func47, Tryz.ntmps47
      go_wp2_with fail
      refine (HW.out _).mono ?_
      rintro e w1 ⟨rfl, hb⟩
      have HB := Aside0.mk (HA.out.below hb)
      clear hb HA
      have c0 := HB.out.c0
      have c1 := HB.out.c1
      have c2 := HB.out.c2
      have c3 := HB.out.c3
      have d0 := HB.out.d0
      have d1 := HB.out.d1
      go_wp2_with fail
      refine (HAP.out _).mono ?_
      rintro e w2 ⟨rfl, hb⟩
      have HC := Aside0.mk ((HB.out.below hb).below (below_alloc (Below.refl _ _) (.cells #[.string q.cells, .int .i64 q.side, .int .i64 q.clock, .int .i64 q.full] 33)))
      clear hb HB c0 c1 c2 c3 d0 d1
      go_upto_region 5 with fail
      generalize w2.heap.size = qb at *
      generalize (w2.alloc (.cells #[.string q.cells, .int .i64 q.side, .int .i64 q.clock, .int .i64 q.full] 33)) = w3 at *
      have fr := HC.out.fr
      have r0 := HC.out.r0
      have r1 := HC.out.r1
      have r2 := HC.out.r2
      have r3 := HC.out.r3
      go_wp2_with fail
      refine bodyPost_ret (by simp [results, Tryz.results47, go_sem, r0, r1, r2, r3]; try rfl) rfl ?_
      exact ⟨by rw [HR1.out]; rfl, by (repeat' (first | (with_reducible exact Below.refl _ _) | (with_reducible refine pw_below_drewN ?_ _) | (with_reducible refine below_alloc ?_ _) | (with_reducible refine Below.drew ?_) | (with_reducible refine Below.setCell ?_ ?_ _) | (simp; done))) <;> first | exact HC.out.bel | (simp; done) | (simp; omega)⟩
    case false =>
      have he : er = 0 := by simpa using h1
      subst he
      clear h1
      cases hs : safeR q.cells p.side
      case false =>
        have HR1 := Aside0.mk (show makeP p m = (zeroP, 0, 7) by rw [HR.out, if_neg (by simp)]; simp only [hs]; rfl)
        rw [hs] at HSF
        clear HR hs
        go_enter Tryz.func47, Tryz.ntmps47
        go_wp2_with fail
        refine (HW.out _).mono ?_
        rintro e w1 ⟨rfl, hb⟩
        have HB := Aside0.mk (HA.out.below hb)
        clear hb HA
        have c0 := HB.out.c0
        have c1 := HB.out.c1
        have c2 := HB.out.c2
        have c3 := HB.out.c3
        have d0 := HB.out.d0
        have d1 := HB.out.d1
        go_wp2_with fail
        refine (HAP.out _).mono ?_
        rintro e w2 ⟨rfl, hb⟩
        have HC := Aside0.mk ((HB.out.below hb).below (below_alloc (Below.refl _ _) (.cells #[.string q.cells, .int .i64 q.side, .int .i64 q.clock, .int .i64 q.full] 33)))
        have HQ := Aside0.mk (BoxP.new w2 q)
        clear hb HB c0 c1 c2 c3 d0 d1
        go_upto_region 5 with fail
        generalize w2.heap.size = qb at *
        generalize (w2.alloc (.cells #[.string q.cells, .int .i64 q.side, .int .i64 q.clock, .int .i64 q.full] 33)) = w3 at *
        have c1 := HC.out.c1
        obtain ⟨q0, q1, q2, q3⟩ := HQ.out
        go_wp2_with fail
        refine (HSF.out _).mono ?_
        rintro e w4 ⟨rfl, hb⟩
        have HD := Aside0.mk (HC.out.below hb)
        clear hb HC c1 q0 q1 q2 q3
        have fr := HD.out.fr
        have r0 := HD.out.r0
        have r1 := HD.out.r1
        have r2 := HD.out.r2
        have r3 := HD.out.r3
        go_wp2_with fail
        refine bodyPost_ret (by simp [results, Tryz.results47, go_sem, r0, r1, r2, r3]; try rfl) rfl ?_
        exact ⟨by rw [HR1.out]; rfl, by (repeat' (first | (with_reducible exact Below.refl _ _) | (with_reducible refine pw_below_drewN ?_ _) | (with_reducible refine below_alloc ?_ _) | (with_reducible refine Below.drew ?_) | (with_reducible refine Below.setCell ?_ ?_ _) | (simp; done))) <;> first | exact HD.out.bel | (simp; done) | (simp; omega)⟩
      case true =>
        have HR1 := Aside0.mk (show makeP p m = (q, c, 0) by rw [HR.out, if_neg (by simp)]; simp only [hs]; rfl)
        rw [hs] at HSF
        clear HR hs
        go_enter Tryz.func47, Tryz.ntmps47
        go_wp2_with fail
        refine (HW.out _).mono ?_
        rintro e w1 ⟨rfl, hb⟩
        have HB := Aside0.mk (HA.out.below hb)
        clear hb HA
        have c0 := HB.out.c0
        have c1 := HB.out.c1
        have c2 := HB.out.c2
        have c3 := HB.out.c3
        have d0 := HB.out.d0
        have d1 := HB.out.d1
        go_wp2_with fail
        refine (HAP.out _).mono ?_
        rintro e w2 ⟨rfl, hb⟩
        have HC := Aside0.mk ((HB.out.below hb).below (below_alloc (Below.refl _ _) (.cells #[.string q.cells, .int .i64 q.side, .int .i64 q.clock, .int .i64 q.full] 33)))
        have HQ := Aside0.mk (BoxP.new w2 q)
        have hn2 : w2.heap.size ≠ w.heap.size + 1 + 1 := World.new_ne w2 _ (HB.out.below hb).r0
        clear hb HB c0 c1 c2 c3 d0 d1
        go_upto_region 5 with fail
        generalize w2.heap.size = qb at *
        generalize (w2.alloc (.cells #[.string q.cells, .int .i64 q.side, .int .i64 q.clock, .int .i64 q.full] 33)) = w3 at *
        have c1 := HC.out.c1
        obtain ⟨q0, q1, q2, q3⟩ := HQ.out
        go_wp2_with fail
        refine (HSF.out _).mono ?_
        rintro e w4 ⟨rfl, hb⟩
        have HD := Aside0.mk (HC.out.below hb)
        clear q0 q1 q2 q3
        obtain ⟨q0, q1, q2, q3⟩ := HQ.out.below hb
        clear hb HC c1
        have fr := HD.out.fr
        have r0 := HD.out.r0
        have r1 := HD.out.r1
        have r2 := HD.out.r2
        have r3 := HD.out.r3
        go_wp2_with fail
        refine bodyPost_ret (by simp [results, Tryz.results47, go_sem, r0, r1, r2, r3]; try rfl) rfl ?_
        exact ⟨by rw [HR1.out], by (repeat' (first | (with_reducible exact Below.refl _ _) | (with_reducible refine pw_below_drewN ?_ _) | (with_reducible refine below_alloc ?_ _) | (with_reducible refine Below.drew ?_) | (with_reducible refine Below.setCell ?_ ?_ _) | (simp; done))) <;> first | exact HD.out.bel | (simp; done) | (simp; omega)⟩
end Go.Proofs.YtllbkppdkldmiaaGreatDoor.K

/- LegalMakes: the walk. -/
namespace Go.Proofs.YtllbkppdkldmiaaGreatDoor.K
open Go.RowKit Go.Lib Go.Proofs.YtllbkppdkldmiaaGreatDoorW.PrintWords Go.Proofs.YtllbkppdkldmiaaGreatDoor.Sp
set_option linter.unusedVariables false
set_option linter.unusedSimpArgs false
theorem is_make (p : Pos) (m : Mvi) : isS p m = ((makeP p m).2.2 == 0) := by
  rw [Bool.eq_iff_iff, beq_iff_eq, make_err]
  unfold isS
  simp only [Bool.and_eq_true, beq_iff_eq]
set_option maxRecDepth 100000 in
set_option maxHeartbeats 4000000 in
theorem legalMakesLaw (w : World) (p : Pos) (m : Mvi) (hmx : p.cells.size ≤ maxLen) (hT : TabW w) : Calls Tryz.prog 10 #[posV p, mviV m] w fun e w' => e = .returned (.bool true) ∧ Below w.heap.size w w' := by
  have HT := Aside0.mk (fun (W : World) (hb : Below w.heap.size w W) => hT.below hb)
  have HLV := Aside0.mk (fun (W : World) (hT : TabW W) => live8_c W hT)
  have hu := Tryz.underlying33
  have hu2 := Tryz.underlying49
  have HP0 := Aside0.mk (PmAt.new w p m)
  by_cases h200 : p.cells.size > 200
  · have h1 : (200 : Int) < (p.cells.size : Int) := by omega
    clear h200 hmx hT
    go_enter Tryz.func10, Tryz.ntmps10
    go_wp2_with (go_at_call 38; refine (HLV.out _ (HT.out _ HP0.out.bel)).mono ?_; rintro e w1 ⟨rfl, hb⟩; have HW1 := Aside0.mk (HP0.out.below hb).bel; clear hb)
    go_ret
    exact ⟨rfl, HW1.out⟩
  have h1 : (p.cells.size : Int) ≤ 200 := by omega
  have HMK := Aside0.mk (fun (W : World) (hT : TabW W) => make_c p m W hT)
  have HRM := Aside0.mk (fun W => rmake8_c p hmx m W)
  have HIS := Aside0.mk (fun (W : World) (hT : TabW W) => is8_c p m W hT)
  unfold MakeIs at HMK HRM
  have hie := is_make p m
  generalize isS p m = isv at *
  generalize makeP p m = r at *
  obtain ⟨⟨q0, q1, q2, q3⟩, c, ee⟩ := r
  simp only at HMK HRM hie
  subst hie
  clear h200 hmx hT
  go_enter Tryz.func10, Tryz.ntmps10
  go_wp2_with fail
  refine (HMK.out _ (HT.out _ HP0.out.bel)).mono ?_
  rintro e w1 ⟨rfl, hb⟩
  have HP1 := Aside0.mk ((HP0.out.below hb).below (below_alloc (Below.refl _ _) (.cells #[.string q0, .int .i64 q1, .int .i64 q2, .int .i64 q3] 33)))
  have HQ1 := Aside0.mk (BoxP.new w1 ⟨q0, q1, q2, q3⟩)
  clear hb HP0
  go_upto_region 4 with fail
  generalize w1.heap.size = qb at *
  generalize (w1.alloc (.cells #[.string q0, .int .i64 q1, .int .i64 q2, .int .i64 q3] 33)) = w2 at *
  obtain ⟨⟨e0, e1, e2, e3⟩, d0, d1, _⟩ := HP1.out
  go_wp2_with fail
  refine (HRM.out _).mono ?_
  rintro e w3 ⟨rfl, hb⟩
  have HP3 := Aside0.mk ((HP1.out.below hb).below (below_alloc (Below.refl _ _) (.cells #[.string q0, .int .i64 q1, .int .i64 q2, .int .i64 q3] 33)))
  have HQ3 := Aside0.mk ((HQ1.out.below hb).below (below_alloc (Below.refl _ _) (.cells #[.string q0, .int .i64 q1, .int .i64 q2, .int .i64 q3] 33)))
  have HR3 := Aside0.mk (BoxP.new w3 ⟨q0, q1, q2, q3⟩)
  clear hb HP1 HQ1 e0 e1 e2 e3 d0 d1
  go_upto_region 5 with fail
  generalize w3.heap.size = rb at *
  generalize (w3.alloc (.cells #[.string q0, .int .i64 q1, .int .i64 q2, .int .i64 q3] 33)) = w4 at *
  obtain ⟨⟨e0, e1, e2, e3⟩, d0, d1, _⟩ := HP3.out
  obtain ⟨f0, f1, f2, f3⟩ := HQ3.out
  obtain ⟨g0, g1, g2, g3⟩ := HR3.out
  go_wp2_with (first
    | (go_at_call 48; refine (HIS.out _ (HT.out _ HP3.out.bel)).mono ?_; rintro e w5 ⟨rfl, hb⟩; have HP5 := Aside0.mk (HP3.out.below hb).bel; clear hb)
    | (go_at_call 38; refine (HLV.out _ (HT.out _ HP5.out)).mono ?_; rintro e w6 ⟨rfl, hb⟩; have HP6 := Aside0.mk (below_go HP5.out hb); clear hb))
  go_ret
  exact ⟨rfl, HP6.out⟩
end Go.Proofs.YtllbkppdkldmiaaGreatDoor.K
