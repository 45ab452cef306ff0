/- Walks and plain laws that several statements lean on, joined: no statement of the seat is proved here. -/
import Derived.Deep.Cut
import Derived.Deep.CutRange
import Derived.Test.YtllbkppdkldmiaaGreatDoorB14
import Derived.Test.YtllbkppdkldmiaaGreatDoorB13

/- The legal laws' live, walked. -/
namespace Go.Proofs.YtllbkppdkldmiaaGreatDoor.K
open Go.RowKit Go.Lib Go.Proofs.YtllbkppdkldmiaaGreatDoorW.PrintWords Go.Proofs.YtllbkppdkldmiaaGreatDoor.Sp
set_option linter.unusedVariables false
set_option linter.unusedSimpArgs false
/-- The boxes of live. -/
structure L8At (w0 W : World) (b2 b4 b6 : Nat) (q : Pos) : Prop where
  a : LmAt w0 W startP
  x2 : BoxP W b2 mateP
  x4 : BoxP W b4 staleP
  x6 : BoxP W b6 q
theorem L8At.below {w0 W W' : World} {b2 b4 b6 : Nat} {q : Pos} (h : L8At w0 W b2 b4 b6 q) (hb : Below W.heap.size W W') : L8At w0 W' b2 b4 b6 q :=
  ⟨h.a.below hb, h.x2.below hb, h.x4.below hb, h.x6.below hb⟩
set_option maxRecDepth 100000 in
set_option maxHeartbeats 4000000 in
theorem live8_c (w : World) (hT : TabW w) : Calls Tryz.prog 38 #[] w fun e w' => e = .returned (.bool true) ∧ Below w.heap.size w w' := by
  have HT := Aside0.mk (fun (W : World) (hb : Below w.heap.size w W) => hT.below hb)
  have HM := Aside0.mk (fun (W : World) (hT : TabW W) => lmoves_c startP W hT)
  have HC := Aside0.mk (fun (W : World) (hT : TabW W) => lcap_c startP W hT)
  have HI1 := Aside0.mk (fun (W : World) (hT : TabW W) => is8_c startP ⟨0, 9⟩ W hT)
  have HI2 := Aside0.mk (fun (W : World) (hT : TabW W) => is8_c startP ⟨0, 1⟩ W hT)
  have HE0 := Aside0.mk (fun (W : World) (hT : TabW W) => lend_c startP W hT)
  have HE1 := Aside0.mk (fun (W : World) (hT : TabW W) => lend_c mateP W hT)
  have HE2 := Aside0.mk (fun (W : World) (hT : TabW W) => lend_c staleP W hT)
  have HK1 := Aside0.mk (fun (W : World) (hT : TabW W) => make_c startP ⟨19, 82⟩ W hT)
  have HK2 := Aside0.mk (fun (W : World) (hT : TabW W) => make_c startP ⟨0, 0⟩ W hT)
  unfold MakeIs at HK1 HK2
  obtain ⟨m1, m2, m3⟩ := start_make
  rw [start_is.1] at HI1
  rw [start_is.2] at HI2
  rw [start_end] at HE0
  rw [mate_end] at HE1
  rw [stale_end] at HE2
  have HL1 := Aside0.mk start_legal
  have HL2 := Aside0.mk start_caps
  generalize legalL startP = l1 at *
  generalize legalC startP = l2 at *
  generalize makeP startP ⟨19, 82⟩ = k1 at *
  generalize makeP startP ⟨0, 0⟩ = k2 at *
  obtain ⟨q1, c1, f1⟩ := k1
  obtain ⟨q2, c2, f2⟩ := k2
  simp only [Prod.mk.injEq] at m1 m2 m3
  obtain ⟨rfl, rfl⟩ := m2
  subst m3
  have HQS := Aside0.mk m1
  have HA0 := Aside0.mk (LmAt.new w startP)
  have hu := Tryz.underlying33
  have hu2 := Tryz.underlying49
  clear hT m1
  go_enter Tryz.func38, Tryz.ntmps38
  go_wp2_with fail
  refine (mate_parse _).mono ?_
  rintro e w1 ⟨rfl, hb⟩
  have HA1 := Aside0.mk ((HA0.out.below hb).below (below_alloc (Below.refl _ _) (.cells #[.string mateB, .int .i64 0, .int .i64 0, .int .i64 1] 33)))
  have HX2 := Aside0.mk (BoxP.new w1 mateP)
  clear hb HA0
  go_upto_region 3 with fail
  generalize w1.heap.size = b2 at *
  generalize (w1.alloc (.cells #[.string mateB, .int .i64 0, .int .i64 0, .int .i64 1] 33)) = w2 at *
  go_wp2_with fail
  refine (stale_parse _).mono ?_
  rintro e w3 ⟨rfl, hb⟩
  have HA3 := Aside0.mk ((HA1.out.below hb).below (below_alloc (Below.refl _ _) (.cells #[.string staleB, .int .i64 0, .int .i64 0, .int .i64 1] 33)))
  have HX23 := Aside0.mk ((HX2.out.below hb).below (below_alloc (Below.refl _ _) (.cells #[.string staleB, .int .i64 0, .int .i64 0, .int .i64 1] 33)))
  have HX4 := Aside0.mk (BoxP.new w3 staleP)
  clear hb HA1 HX2
  go_upto_region 4 with fail
  generalize w3.heap.size = b4 at *
  generalize (w3.alloc (.cells #[.string staleB, .int .i64 0, .int .i64 0, .int .i64 1] 33)) = w4 at *
  obtain ⟨e0, e1, e2, e3⟩ := HA3.out.box
  go_wp2_with fail
  refine (HK1.out _ (HT.out _ HA3.out.bel)).mono ?_
  rintro e w5 ⟨rfl, hb⟩
  have hnb : Below w5.heap.size w5 (w5.alloc (.cells #[.string q1.cells, .int .i64 q1.side, .int .i64 q1.clock, .int .i64 q1.full] 33)) := below_alloc (Below.refl _ _) _
  have H5 := Aside0.mk (show L8At w _ b2 b4 w5.heap.size q1 from ⟨(HA3.out.below hb).below hnb, (HX23.out.below hb).below hnb, (HX4.out.below hb).below hnb, BoxP.new w5 q1⟩)
  clear hb hnb HA3 HX23 HX4 e0 e1 e2 e3
  go_upto_region 5 with fail
  generalize w5.heap.size = b6 at *
  generalize (w5.alloc (.cells #[.string q1.cells, .int .i64 q1.side, .int .i64 q1.clock, .int .i64 q1.full] 33)) = w6 at *
  obtain ⟨e0, e1, e2, e3⟩ := H5.out.a.box
  go_wp2_with fail
  refine (HK2.out _ (HT.out _ H5.out.a.bel)).mono ?_
  rintro e w7 ⟨rfl, hb⟩
  have H7 := Aside0.mk ((H5.out.below hb).below (below_alloc (Below.refl _ _) (.cells #[.string q2.cells, .int .i64 q2.side, .int .i64 q2.clock, .int .i64 q2.full] 33)))
  clear hb H5 e0 e1 e2 e3
  go_upto_region 6 with fail
  generalize w7.heap.size = b9 at *
  generalize (w7.alloc (.cells #[.string q2.cells, .int .i64 q2.side, .int .i64 q2.clock, .int .i64 q2.full] 33)) = w8 at *
  obtain ⟨e0, e1, e2, e3⟩ := H7.out.a.box
  go_wp2_with fail
  refine (HM.out _ (HT.out _ H7.out.a.bel)).mono ?_
  rintro e w9 ⟨v1, rfl, ho, hb⟩
  have H9 := Aside0.mk (H7.out.below hb)
  obtain ⟨A1, p1, hv⟩ := ho.reads.form
  rw [HL1.out] at hv
  subst hv
  clear ho hb H7 e0 e1 e2 e3
  obtain ⟨e0, e1, e2, e3⟩ := H9.out.a.box
  go_wp2_with fail
  refine (HC.out _ (HT.out _ H9.out.a.bel)).mono ?_
  rintro e w10 ⟨v2, rfl, ho, hb⟩
  have H10 := Aside0.mk (H9.out.below hb)
  obtain ⟨A2, p2, hv⟩ := ho.reads.form
  rw [HL2.out] at hv
  subst hv
  clear ho hb H9 e0 e1 e2 e3
  obtain ⟨e0, e1, e2, e3⟩ := H10.out.a.box
  go_wp2_with fail
  refine (HI1.out _ (HT.out _ H10.out.a.bel)).mono ?_
  rintro e w11 ⟨rfl, hb⟩
  have H11 := Aside0.mk (H10.out.below hb)
  clear hb H10 e0 e1 e2 e3
  obtain ⟨e0, e1, e2, e3⟩ := H11.out.a.box
  go_wp2_with fail
  refine (HI2.out _ (HT.out _ H11.out.a.bel)).mono ?_
  rintro e w12 ⟨rfl, hb⟩
  have H12 := Aside0.mk (H11.out.below hb)
  clear hb H11 e0 e1 e2 e3
  obtain ⟨e0, e1, e2, e3⟩ := H12.out.a.box
  go_wp2_with fail
  refine (HE0.out _ (HT.out _ H12.out.a.bel)).mono ?_
  rintro e w13 ⟨rfl, hb⟩
  have H13 := Aside0.mk (H12.out.below hb)
  clear hb H12 e0 e1 e2 e3
  obtain ⟨e0, e1, e2, e3⟩ := H13.out.x2
  go_wp2_with fail
  refine (HE1.out _ (HT.out _ H13.out.a.bel)).mono ?_
  rintro e w14 ⟨rfl, hb⟩
  have H14 := Aside0.mk (H13.out.below hb)
  clear hb H13 e0 e1 e2 e3
  obtain ⟨e0, e1, e2, e3⟩ := H14.out.x4
  go_wp2_with fail
  refine (HE2.out _ (HT.out _ H14.out.a.bel)).mono ?_
  rintro e w15 ⟨rfl, hb⟩
  have H15 := Aside0.mk (H14.out.below hb)
  clear hb H14 e0 e1 e2 e3
  obtain ⟨e0, e1, e2, e3⟩ := H15.out.x6
  rw [HQS.out] at e1
  go_wp2_with fail
  go_ret
  exact ⟨rfl, H15.out.a.bel⟩
end Go.Proofs.YtllbkppdkldmiaaGreatDoor.K

/- Walks: the reference's Apply; PseudoApplies. -/
namespace Go.Proofs.YtllbkppdkldmiaaGreatDoor.K
open Go.RowKit Go.Lib Go.Proofs.YtllbkppdkldmiaaGreatDoorW.PrintWords Go.Proofs.YtllbkppdkldmiaaGreatDoor.Sp
set_option linter.unusedVariables false
set_option linter.unusedSimpArgs false
attribute [local go_sem] cel_get   -- for this text's walks alone
/-- The new position's box beside the others. -/
structure QbAt (w0 W : World) (p : Pos) (m : Mvi) (q : Pos) (qb : Nat) : Prop where
  ap : ApAt w0 W p m
  box : BoxP W qb q
  fz : ∀ k, W.frozen? ⟨qb, k, none⟩ = false
  lt : w0.heap.size + 2 < qb
theorem QbAt.mk1 {w0 W : World} {p : Pos} {m : Mvi} (h : ApAt w0 W p m) (q : Pos) : QbAt w0 (W.alloc (.cells #[.string q.cells, .int .i64 q.side, .int .i64 q.clock, .int .i64 q.full] 33)) p m q W.heap.size :=
  ⟨h.below (below_alloc (Below.refl _ _) _), BoxP.new W q, fun k => World.frozen?_alloc_at _ _ _ k rfl, h.lt⟩
theorem QbAt.mk2 {w0 W : World} {p : Pos} {m : Mvi} {qb : Nat} (h : ApAt w0 W p m) (hl : w0.heap.size + 2 < qb) (z0 : W.cell? ⟨qb, 0, none⟩ = some (.string { data := #[] })) (z1 : W.cell? ⟨qb, 1, none⟩ = some (.int .i64 0)) (z2 : W.cell? ⟨qb, 2, none⟩ = some (.int .i64 0)) (z3 : W.cell? ⟨qb, 3, none⟩ = some (.int .i64 0)) (zf : ∀ k, W.frozen? ⟨qb, k, none⟩ = false) (q : Pos) :
    QbAt w0 ((((W.setCell ⟨qb, 0, none⟩ (.string q.cells)).setCell ⟨qb, 1, none⟩ (.int .i64 q.side)).setCell ⟨qb, 2, none⟩ (.int .i64 q.clock)).setCell ⟨qb, 3, none⟩ (.int .i64 q.full)) p m q qb :=
  ⟨h.upto (n := qb) hl (Below.setCell (p := ⟨qb, 3, none⟩) (Below.setCell (p := ⟨qb, 2, none⟩) (Below.setCell (p := ⟨qb, 1, none⟩) (Below.setCell (p := ⟨qb, 0, none⟩) (Below.refl _ _) (Nat.le_refl _) _) (Nat.le_refl _) _) (Nat.le_refl _) _) (Nat.le_refl _) _), ⟨by simp [go_sem, z0, z1, z2, z3], by simp [go_sem, z0, z1, z2, z3], by simp [go_sem, z0, z1, z2, z3], by simp [go_sem, z0, z1, z2, z3]⟩, fun k => by simp [go_sem, zf], hl⟩
/-- A new position's box behind a call. -/
theorem qz_new (W W' : World) (hb : Below (W.alloc (.cells #[.string { data := #[] }, .int .i64 0, .int .i64 0, .int .i64 0] 33)).heap.size (W.alloc (.cells #[.string { data := #[] }, .int .i64 0, .int .i64 0, .int .i64 0] 33)) W') :
    W'.cell? ⟨W.heap.size, 0, none⟩ = some (.string { data := #[] }) ∧ W'.cell? ⟨W.heap.size, 1, none⟩ = some (.int .i64 0) ∧ W'.cell? ⟨W.heap.size, 2, none⟩ = some (.int .i64 0) ∧ W'.cell? ⟨W.heap.size, 3, none⟩ = some (.int .i64 0) ∧ ∀ k, W'.frozen? ⟨W.heap.size, k, none⟩ = false := by
  have hl : W.heap.size < (W.alloc (.cells #[.string { data := #[] }, .int .i64 0, .int .i64 0, .int .i64 0] 33)).heap.size := by simp
  exact ⟨(hb.cell (p := ⟨W.heap.size, 0, none⟩) hl).trans (by simp [World.cell?_alloc_at]), (hb.cell (p := ⟨W.heap.size, 1, none⟩) hl).trans (by simp [World.cell?_alloc_at]), (hb.cell (p := ⟨W.heap.size, 2, none⟩) hl).trans (by simp [World.cell?_alloc_at]), (hb.cell (p := ⟨W.heap.size, 3, none⟩) hl).trans (by simp [World.cell?_alloc_at]), fun k => (hb.frozen (p := ⟨W.heap.size, k, none⟩) hl).trans (World.frozen?_alloc_at _ _ _ k rfl)⟩
set_option maxRecDepth 100000 in
set_option maxHeartbeats 4000000 in
theorem rapply_ok (p : Pos) (m : Mvi) (w : World) (hck : checkP p = 0) (hg : okR p m) : Calls Tryz.prog 50 #[posV p, mviV m] w (ApplyIs w p m) := by
  obtain ⟨hbd, hsd0, q1, q2, q3, q4⟩ := argOk_yes (checkP_board hck)
  have hsz := board_size hbd
  have HCK := Aside0.mk (fun W => rcheck_c p (by rw [hsz]; unfold maxLen; omega) W)
  rw [hck] at HCK
  have hu := Tryz.underlying33
  have hu2 := Tryz.underlying49
  have hgt := (ok_good hck).2 hg
  obtain ⟨m1, m2⟩ := m
  obtain ⟨⟨f0, f1⟩, ⟨g0, g1⟩, h1, h2, h3⟩ := hg
  simp only at f0 f1 g0 g1 h1 h2 h3
  obtain ⟨a, rfl⟩ : ∃ a : Nat, m1 = a := ⟨m1.toNat, by omega⟩
  obtain ⟨b, rfl⟩ : ∃ b : Nat, m2 = b := ⟨m2.toNat, by omega⟩
  simp only [Int.toNat_natCast] at h1 h2 h3
  have hatb : atS p.cells (b : Int) = cel p.cells b := by unfold atS; rw [if_pos ⟨hbd, g0, g1⟩]; rfl
  have HR := Aside0.mk (show applyP p ⟨a, b⟩ = (⟨movedB p.cells a b, 1 - p.side, if cel p.cells b = 46 then min (p.clock + 1) 120 else 0, if p.side = 1 then min (p.full + 1) 9999 else p.full⟩, if cel p.cells b = 46 then 0 else cel p.cells b, 0) by
    unfold applyP
    rw [if_neg (by simpa using hck), if_neg (by rw [hgt]; simp)]
    simp only
    rw [hatb]
    rfl)
  have HMV := Aside0.mk (fun W => rmoved_c p.cells hsz a b (by omega) (by omega) W)
  have HS1 := Aside0.mk (fun W => rside_c (cel p.cells a) (cel_lt _ _) W)
  have HK1 := Aside0.mk (fun W => rkind_c (cel p.cells b) (cel_lt _ _) W)
  have HF1 := Aside0.mk (fun W => rfast_c p.cells hbd a b (by omega) (by omega) W)
  rw [h1] at HS1
  rw [h2] at HF1
  have k1 : decide ((a : Int) < 0) = false := decide_eq_false (by omega)
  have k2 : decide (89 < (a : Int)) = false := decide_eq_false (by omega)
  have k3 : decide ((b : Int) < 0) = false := decide_eq_false (by omega)
  have k4 : decide (89 < (b : Int)) = false := decide_eq_false (by omega)
  have ha : (a : Int) < (p.cells.size : Int) := by rw [hsz]; omega
  have hb1 : (b : Int) < (p.cells.size : Int) := by rw [hsz]; omega
  have hk75 : ((kindN (cel p.cells b) : Int) == 75) = false := by rw [beq_eq_false_iff_ne]; omega
  have hs0 : 0 ≤ p.side := by omega
  have hs1 : p.side ≤ 1 := by omega
  have HY := Aside0.mk (bne46 (cel p.cells b))
  have hyl := cel_lt p.cells b
  generalize kindN (cel p.cells b) = kd at *
  generalize movedB p.cells a b = mb at *
  generalize hyy : cel p.cells b = y at *
  have e1 : wrap64 (1 - p.side) = 1 - p.side := by unfold wrap64; omega
  have e2 : IntKind.i64.wrap (1 - p.side) = 1 - p.side := by rw [IntKind.wrap_i64]; omega
  have e3 : wrap64 (p.clock + 1) = p.clock + 1 := by unfold wrap64; omega
  have e4 : IntKind.i64.wrap (p.clock + 1) = p.clock + 1 := by rw [IntKind.wrap_i64]; omega
  have hc1 : p.clock ≤ 120 := q2
  clear hck hgt h1 h2 h3 hatb hbd hsz hsd0 f0 f1 g0 g1
  go_enter Tryz.func50, Tryz.ntmps50
  go_wp2_with fail
  refine (HCK.out _).mono ?_
  rintro e w1 ⟨rfl, hb⟩
  have HA := Aside0.mk ((apat_new w p ⟨(a : Int), (b : Int)⟩).below hb)
  clear hb
  have d0 := HA.out.d0
  have d1 := HA.out.d1
  have c0 := HA.out.c0
  have c1 := HA.out.c1
  go_wp2_with fail
  go_quiet (first | (go_at_call 34; exact Calls.quiet_of_same (HS1.out _)) | (go_at_call 59; exact Calls.quiet_of_same (HF1.out _)) | (go_at_call 35; exact Calls.quiet_of_same (HK1.out _)))
  have HA1 := Aside0.mk (HA.out.below (pw_below_drewN (Below.refl _ _) nq))
  clear HA d0 d1 c0 c1 k1 k2 k3 k4 hk75
  generalize w1.drewN nq = w5 at *
  have c0 := HA1.out.c0
  have c1 := HA1.out.c1
  have c2 := HA1.out.c2
  have c3 := HA1.out.c3
  have d0 := HA1.out.d0
  have d1 := HA1.out.d1
  go_upto_region 6 with fail
  have HA2 := Aside0.mk HA1.out.drew
  clear HA1
  go_cut [8] from 65 to 78 (fun s8 wx => ∃ qb : Nat, s8 = .pointer (some ⟨qb, 0, none⟩) ∧ Aside0 (QbAt w wx p ⟨(a : Int), (b : Int)⟩ ⟨mb, 1 - p.side, min (p.clock + 1) 120, p.full⟩ qb))
  case first =>
    go_region_held3 (fun W => W.cell? ⟨w.heap.size, 0, none⟩ = some (.string p.cells) ∧ W.cell? ⟨w.heap.size, 1, none⟩ = some (.int .i64 p.side) ∧ W.cell? ⟨w.heap.size, 2, none⟩ = some (.int .i64 p.clock) ∧ W.cell? ⟨w.heap.size, 3, none⟩ = some (.int .i64 p.full) ∧ W.cell? ⟨w.heap.size + 1, 0, none⟩ = some (.int .i64 (a : Int)) ∧ W.cell? ⟨w.heap.size + 1, 1, none⟩ = some (.int .i64 (b : Int))) (go_keep)
        (first
          | (go_at_call 87; (with_reducible refine (HMV.out w5.drew).mono ?_); rintro e w6 ⟨rfl, hb⟩; have HA3 := Aside0.mk (HA2.out.below hb); clear HA2 hb c0 c1 c2 c3 d0 d1; have c0 := HA3.out.c0; have c1 := HA3.out.c1; have c2 := HA3.out.c2; have c3 := HA3.out.c3; have d0 := HA3.out.d0; have d1 := HA3.out.d1; have n0 : w6.heap.size ≠ w.heap.size := World.new_ne w6 _ c0; have n1 : w6.heap.size ≠ w.heap.size + 1 := World.new_ne w6 _ d0)
          | (go_at_call 87; (with_reducible refine (HMV.out _).mono ?_); rintro e w6 ⟨rfl, hb⟩; have HZ := Aside0.mk (qz_new w5.drew w6 hb); have HL5 := Aside0.mk (show w.heap.size + 2 < w5.heap.size from HA2.out.lt); have HA3 := Aside0.mk ((HA2.out.below (below_alloc (Below.refl _ _) _)).below hb); have n0 : w5.heap.size ≠ w.heap.size := World.new_ne w5 _ c0; have n1 : w5.heap.size ≠ w.heap.size + 1 := World.new_ne w5 _ d0; clear HA2 hb c0 c1 c2 c3 d0 d1; have c0 := HA3.out.c0; have c1 := HA3.out.c1; have c2 := HA3.out.c2; have c3 := HA3.out.c3; have d0 := HA3.out.d0; have d1 := HA3.out.d1; have z0 : w6.cell? ⟨w5.heap.size, 0, none⟩ = some (.string { data := #[] }) := HZ.out.1; have z1 : w6.cell? ⟨w5.heap.size, 1, none⟩ = some (.int .i64 0) := HZ.out.2.1; have z2 : w6.cell? ⟨w5.heap.size, 2, none⟩ = some (.int .i64 0) := HZ.out.2.2.1; have z3 : w6.cell? ⟨w5.heap.size, 3, none⟩ = some (.int .i64 0) := HZ.out.2.2.2.1; have zf : ∀ k, w6.frozen? ⟨w5.heap.size, k, none⟩ = false := HZ.out.2.2.2.2))
    all_goals
      go_wp2_with fail
      go_meet
      first
      | exact ⟨_, rfl, ⟨QbAt.mk1 HA3.out ⟨mb, 1 - p.side, min (p.clock + 1) 120, p.full⟩⟩⟩
      | exact ⟨_, rfl, ⟨QbAt.mk2 HA3.out HL5.out z0 z1 z2 z3 zf ⟨mb, 1 - p.side, min (p.clock + 1) 120, p.full⟩⟩⟩
  case rest =>
  obtain ⟨qb, rfl, HQ⟩ := hcut
  clear c0 c1 c2 c3 d0 d1 HA2 HCK HS1 HF1 HK1 HMV e1 e2 e3 e4 hu2
  obtain ⟨HAP, ⟨b0, b1, b2, b3⟩, fq, hqb⟩ := HQ.out
  have HAP := Aside0.mk HAP
  have m1 : qb ≠ w.heap.size := by omega
  have m2 : qb ≠ w.heap.size + 1 := by omega
  have m3 : qb ≠ w.heap.size + 1 + 1 := by omega
  have HQB := Aside0.mk hqb
  have c0 := HAP.out.c0
  have c1 := HAP.out.c1
  have d1 := HAP.out.d1
  have r0 := HAP.out.r0
  have r1 := HAP.out.r1
  have r2 := HAP.out.r2
  have r3 := HAP.out.r3
  have fr := HAP.out.fr
  have hy := HY.out
  clear HQ hqb
  cases hz : (y != 46)
  all_goals
    rw [hz] at hy
    have HY46 := Aside0.mk hz
    clear hz
    cases hs : (p.side == 1)
    all_goals
      have HS1 := Aside0.mk hs
      go_wp2_with fail
      refine bodyPost_ret (by simp [results, Tryz.results50, go_sem, r0, r1, r2, r3, m1, m2, m3, Ne.symm m3]; try rfl) rfl ?_
      have hle := HQB.out
      refine ⟨?_, by (repeat' (first | (with_reducible exact Below.refl _ _) | (with_reducible refine pw_below_drewN ?_ _) | (with_reducible refine below_alloc ?_ _) | (with_reducible refine Below.drew ?_) | (with_reducible refine Below.setCell ?_ ?_ _) | (simp; done))) <;> first | exact HAP.out.bel | (simp; done) | (simp; omega)⟩
      rw [HR.out]
      have y1 := HY46.out
      have s1 := HS1.out
      simp only [bne_iff_ne, ne_eq, bne_eq_false_iff_eq, beq_iff_eq, beq_eq_false_iff_ne] at y1 s1
      simp [y1, s1]
theorem rapply_c (p : Pos) (hmx : p.cells.size ≤ maxLen) (m : Mvi) (w : World) : Calls Tryz.prog 50 #[posV p, mviV m] w (ApplyIs w p m) := by
  by_cases h1 : checkP p = 0
  · by_cases h2 : okR p m
    · exact rapply_ok p m w h1 h2
    · exact rapply_bad p m w h1 h2
  · exact rapply_no p hmx m w h1
end Go.Proofs.YtllbkppdkldmiaaGreatDoor.K

/- Walks: the reference's Captures, Make, End (layer 8). -/
namespace Go.Proofs.YtllbkppdkldmiaaGreatDoor.K
open Go.RowKit Go.Lib Go.Proofs.YtllbkppdkldmiaaGreatDoorW.PrintWords Go.Proofs.YtllbkppdkldmiaaGreatDoor.Sp
set_option linter.unusedVariables false
set_option linter.unusedSimpArgs false
attribute [local go_sem] cel_get   -- for this text's walks alone
theorem legalC_eq (p : Pos) : legalC p = (legalL p).filter (fun m => cel p.cells m.2 != 46) := by
  unfold legalC
  refine List.filter_congr fun m hm => ?_
  obtain ⟨_, hg, _⟩ := legal_mem.1 hm
  obtain ⟨hck, _, hb, _⟩ := gath_mem hg
  have hbd := (argOk_yes (checkP_board hck)).1
  have h : atS p.cells (m.2 : Int) = cel p.cells m.2 := by unfold atS; rw [if_pos ⟨hbd, by omega, by omega⟩]; rfl
  rw [h]
set_option maxRecDepth 100000 in
set_option maxHeartbeats 4000000 in
theorem rcap8_c (p : Pos) (hmx : p.cells.size ≤ maxLen) (w : World) : Calls Tryz.prog 43 #[posV p] w fun e w' => ∃ v, e = .returned v ∧ OwnM w' w.heap.size v (legalC p) ∧ Below w.heap.size w w' := by
  have HM := Aside0.mk (fun W => rmoves8_c p hmx W)
  have HFIL := Aside0.mk (legalC_eq p)
  have HMEM := Aside0.mk (fun m (h : m ∈ legalL p) => gath_mem (legal_mem.1 h).2.1)
  have HLL := Aside0.mk (legal_len2 p)
  have hu := Tryz.underlying33
  have hu2 := Tryz.underlying49
  obtain ⟨i0, hi0, hx⟩ := Option.map_eq_some_iff.1 info_move
  simp only [Prod.mk.injEq] at hx
  have HZ := Aside0.mk (⟨hi0, hx⟩ : _ ∧ _)
  generalize legalC p = k at *
  generalize legalL p = l at *
  have HB0 := Aside0.mk (BoxP.new w p)
  have HW0 := Aside0.mk (below_new (Below.refl w.heap.size w) (.cells #[.string p.cells, .int .i64 p.side, .int .i64 p.clock, .int .i64 p.full] 33))
  clear hx hi0 hmx
  go_enter Tryz.func43, Tryz.ntmps43
  go_wp2_with fail
  refine (HM.out _).mono ?_
  rintro e w1 ⟨v1, rfl, h1, hb⟩
  have HC := Aside0.mk (show CaAt w w1 p v1 (.slice none 0 0) l [] from ⟨HB0.out.below hb, h1.reads.lower HW0.out.size, own_nil _ _ _ _, fun g hg => by simp [Value.ownBlock] at hg, below_go HW0.out hb⟩)
  clear h1 hb HB0 HW0
  obtain ⟨A1, cap1, rfl⟩ := HC.out.m1.form
  go_wp2_with fail
  go_loopg [4, 5] l.length (fun gg s4 s5 wr => ∃ i : Nat, s5 = .int .i64 (i : Int) ∧ i + gg = l.length ∧ Aside0 (CaAt w wr p (.slice A1 l.length cap1) s4 l ((l.take i).filter (fun m => cel p.cells m.2 != 46))))
  case atStart => exact ⟨0, rfl, by omega, HC⟩
  case round =>
    clear HC
    obtain ⟨i, rfl, hi, HC⟩ := hrel
    cases gk with
    | zero =>
      have hn : ¬ ((i : Int) < (l.length : Int)) := by omega
      have HI := Aside0.mk (show i = l.length by omega)
      clear hi
      go_wp2_with fail
      go_ret
      refine ⟨_, rfl, ?_, HC.out.bel⟩
      have := HC.out.own
      rw [HI.out, List.take_length, ← HFIL.out] at this
      exact this
    | succ g =>
      have hn : (i : Int) < (l.length : Int) := by omega
      have hil : i < l.length := by omega
      have hib : (i : Int) ≤ 8100 := by have := HLL.out; omega
      have HI := Aside0.mk (show i + 1 + g = l.length by omega)
      have HTF := Aside0.mk (take_filter l (fun m => cel p.cells m.2 != 46) i hil)
      have HNI := Aside0.mk (show ((l.take i).filter (fun m => cel p.cells m.2 != 46)).length ≤ 8100 from Nat.le_trans (List.length_filter_le _ _) (Nat.le_trans (by rw [List.length_take]; omega) HLL.out))
      obtain ⟨hc0, _, hb90, _⟩ := HMEM.out _ (List.getElem_mem hil)
      have hs90 := board_size (argOk_yes (checkP_board hc0)).1
      obtain ⟨g1, cap1', hA1, _, hg1, hx1⟩ := HC.out.m1.at (fun h => by rw [h] at hil; simp at hil)
      simp only [Value.slice.injEq, true_and] at hA1
      obtain ⟨rfl, rfl⟩ := hA1
      obtain ⟨x0, x1⟩ := hx1 i hil
      clear hx1 hi hc0
      obtain ⟨e0, e1, e2, e3⟩ := HC.out.box
      clear e1 e2 e3
      generalize ((l.take i).filter (fun m => cel p.cells m.2 != 46)) = fl at *
      generalize l[i] = m at *
      obtain ⟨ma, mb⟩ := m
      simp only at hb90 x0 x1
      have hm2 : (mb : Int) < (p.cells.size : Int) := by omega
      have q := bne46 (cel p.cells mb)
      clear hs90 hb90 hil
      cases hc : (cel p.cells mb != 46)
      case false =>
        rw [hc] at q
        have HC0 := Aside0.mk hc
        clear hc
        go_wp2_with fail
        go_quiet (fail)
        go_wp2_with fail
        go_roundg g
        case measure => omega
        case rel =>
          refine ⟨i + 1, by go_num, by have := HI.out; omega, ⟨?_⟩⟩
          rw [HTF.out, if_neg (by show ¬ (cel p.cells mb != 46) = true; rw [HC0.out]; simp), List.append_nil]
          exact HC.out.below (pw_below_drewN (Below.refl _ _) _)
      case true =>
        rw [hc] at q
        have HC0 := Aside0.mk hc
        clear hc
        go_wp2_with fail
        go_quiet (fail)
        have HC2 := Aside0.mk (HC.out.below (pw_below_drewN (Below.refl _ _) nq))
        have y0 : (wr.drewN nq).cell? ⟨g1, i * 2, none⟩ = some (.int .i64 (ma : Int)) := x0
        have y1 : (wr.drewN nq).cell? ⟨g1, i * 2 + 1, none⟩ = some (.int .i64 (mb : Int)) := x1
        clear HC x0 x1 e0
        generalize wr.drewN nq = w2 at *
        go_wp2_with (at_builtin; refine hold ?_)
        refine Hold.go ?_
        refine wpList_append_lies _ (by rfl) _ _ _ (by rfl) w.heap.size 49 i0 _ 2 16 Tryz.underlying45 HZ.out.1 HZ.out.2.1 HZ.out.2.2.1 HZ.out.2.2.2 rfl (by omega) _ fl.length (flatM fl) (by rfl) (HC2.out.own.below (below_alloc (Below.refl _ _) _)) ⟨_, 0, none⟩ 1 1 (mvC (ma, mb)) (by rfl) (by rfl) (World.news_of_block (cs := #[.int .i64 (ma : Int), .int .i64 (mb : Int)]) (t := 49) (fr := (0, 0)) (news_own _ _)) (by simp [Value.oneCell', mvC]) (by omega) (by have := HNI.out; unfold maxLen; omega) (by have := HNI.out; omega) (by have := HC2.out.bel.size; simp; omega) _ rfl ?_
        intro gg cap2 w3 hown1 hgrow hat hlt1
        have HO := Aside0.mk (show CaAt w w3 p (.slice (some ⟨g1, 0, none⟩) l.length cap1) (.slice (some ⟨gg, 0, none⟩) (fl.length + 1) cap2) l (fl ++ [(ma, mb)]) from (HC2.out.below (below_alloc (Below.refl _ _) _)).grown hgrow (by unfold OwnM; rw [flatM_append, List.length_append]; exact hown1) hat)
        clear hown1 hgrow hat hlt1 HC2
        go_wp2_with fail
        go_roundg g
        case measure => omega
        case rel =>
          refine ⟨i + 1, by go_num, by have := HI.out; omega, ⟨?_⟩⟩
          rw [HTF.out, if_pos (show (cel p.cells mb != 46) = true from HC0.out)]
          exact HO.out
/-! ### End -/
set_option maxRecDepth 100000 in
set_option maxHeartbeats 4000000 in
theorem rend_c (p : Pos) (hmx : p.cells.size ≤ maxLen) (w : World) : Calls Tryz.prog 45 #[posV p] w fun e w' => e = .returned (.int .i64 (endS p)) ∧ Below w.heap.size w w' := by
  have HW := Aside0.mk (fun W => rwell_c p hmx W)
  have HI := Aside0.mk (fun (W : World) => rin_c p.cells hmx p.side W)
  have hu := Tryz.underlying33
  have HA := Aside0.mk (LmAt.new w p)
  have HE := Aside0.mk (end_eq p)
  generalize endS p = en at *
  by_cases hw : wellS p = 0
  case neg =>
    have H0 := Aside0.mk hw
    have h2 : (wellS p != 0) = true := by simpa using hw
    clear hw hmx HI
    generalize wellS p = r at *
    go_enter Tryz.func45, Tryz.ntmps45
    go_wp2_with (go_at_call 51; refine (HW.out _).mono ?_; rintro e w1 ⟨rfl, hb⟩; have HB := Aside0.mk (HA.out.below hb).bel; clear hb)
    go_ret
    exact ⟨ret_int (by rw [HE.out, if_pos H0.out]), HB.out⟩
  have hbd := (argOk_yes (checkP_board (well_check hw))).1
  have HOF := Aside0.mk (fun W => rof8_c p.cells hbd p.side W)
  rw [← legal_eq hw] at HOF
  have HL := Aside0.mk (legal_len2 p)
  have H0 := Aside0.mk hw
  have HE2 := Aside0.mk (show en = if 0 < (legalL p).length then 0 else if inS p.cells p.side = true then 1 else 2 by rw [HE.out, if_neg (by simpa using hw)])
  rw [hw] at HW
  clear HE
  generalize legalL p = l at *
  clear hw hmx hbd
  have hl : (l.length : Int) ≤ 8100 := by have := HL.out; omega
  cases h1 : decide (0 < l.length)
  case true =>
    have h1' : (0 : Int) < (l.length : Int) := by have := of_decide_eq_true h1; omega
    have h1'' : 0 < l.length := of_decide_eq_true h1
    have H1 := Aside0.mk h1''
    clear h1 HI
    go_enter Tryz.func45, Tryz.ntmps45
    go_wp2_with (first
      | (go_at_call 51; refine (HW.out _).mono ?_; rintro e w1 ⟨rfl, hb⟩; have HB := Aside0.mk (HA.out.below hb); clear hb; obtain ⟨c0, c1, c2, c3⟩ := HB.out.box)
      | (go_at_call 79; refine (HOF.out _).mono ?_; rintro e w2 ⟨v, rfl, ho, hb⟩; have HC := Aside0.mk (HB.out.below hb); have HV := Aside0.mk ho.reads; obtain ⟨A, cap, hv⟩ := ho.reads.form; subst hv; clear hb ho c0 c1 c2 c3))
    go_ret
    exact ⟨ret_int (by rw [HE2.out, if_pos H1.out]), HC.out.bel⟩
  case false =>
    have h1' : l.length = 0 := by have := of_decide_eq_false h1; omega
    obtain rfl : l = [] := List.length_eq_zero_iff.1 h1'
    clear h1 h1' hl
    cases h2 : inS p.cells p.side
    all_goals
      have H2 := Aside0.mk h2
      rw [h2] at HI
      clear h2
      go_enter Tryz.func45, Tryz.ntmps45
      go_wp2_with (first
        | (go_at_call 51; refine (HW.out _).mono ?_; rintro e w1 ⟨rfl, hb⟩; have HB := Aside0.mk (HA.out.below hb); clear hb; obtain ⟨c0, c1, c2, c3⟩ := HB.out.box)
        | (go_at_call 79; refine (HOF.out _).mono ?_; rintro e w2 ⟨v, rfl, ho, hb⟩; have HC := Aside0.mk (HB.out.below hb); obtain ⟨A, cap, hv⟩ := ho.reads.form; have hv2 : v = .slice A 0 cap := hv; clear hv; subst hv2; clear hb ho c0 c1 c2 c3; obtain ⟨c0, c1, c2, c3⟩ := HC.out.box)
        | (go_at_call 25; refine (HI.out _).mono ?_; rintro e w3 ⟨rfl, hb⟩; have HD := Aside0.mk (HC.out.below hb); clear hb c0 c1 c2 c3))
      go_ret
      exact ⟨ret_int (by rw [HE2.out, H2.out]; rfl), HD.out.bel⟩
end Go.Proofs.YtllbkppdkldmiaaGreatDoor.K

/- LegalMoves: the walk. -/
namespace Go.Proofs.YtllbkppdkldmiaaGreatDoor.K
open Go.RowKit Go.Lib Go.Proofs.YtllbkppdkldmiaaGreatDoorW.PrintWords Go.Proofs.YtllbkppdkldmiaaGreatDoor.Sp
set_option linter.unusedVariables false
set_option linter.unusedSimpArgs false
theorem legalC_len (p : Pos) : (legalC p).length ≤ 8100 := Nat.le_trans (List.length_filter_le _ _) (legal_len2 p)
set_option maxRecDepth 100000 in
set_option maxHeartbeats 4000000 in
theorem legalMovesLaw (w : World) (p : Pos) (hmx : p.cells.size ≤ maxLen) (hT : TabW w) : Calls Tryz.prog 9 #[posV p] w fun e w' => e = .returned (.bool true) ∧ Below w.heap.size w w' := by
  have HT := Aside0.mk (fun (W : World) (hb : Below w.heap.size w W) => hT.below hb)
  have HLV := Aside0.mk (fun (W : World) (hT : TabW W) => live8_c W hT)
  have hu := Tryz.underlying33
  have HP0 := Aside0.mk (LmAt.new w p)
  by_cases h200 : p.cells.size > 200
  · have h1 : (200 : Int) < (p.cells.size : Int) := by omega
    clear h200 hmx hT
    go_enter Tryz.func9, Tryz.ntmps9
    go_wp2_with (go_at_call 38; refine (HLV.out _ (HT.out _ HP0.out.bel)).mono ?_; rintro e w1 ⟨rfl, hb⟩; have HW1 := Aside0.mk (HP0.out.below hb).bel; clear hb)
    go_ret
    exact ⟨rfl, HW1.out⟩
  have h1 : (p.cells.size : Int) ≤ 200 := by omega
  have HM := Aside0.mk (fun (W : World) (hT : TabW W) => lmoves_c p W hT)
  have HC := Aside0.mk (fun (W : World) (hT : TabW W) => lcap_c p W hT)
  have HE := Aside0.mk (fun (W : World) (hT : TabW W) => lend_c p W hT)
  have HRM := Aside0.mk (fun W => rmoves8_c p hmx W)
  have HRC := Aside0.mk (fun W => rcap8_c p hmx W)
  have HRE := Aside0.mk (fun W => rend_c p hmx W)
  have HLL := Aside0.mk (legal_len2 p)
  have HLK := Aside0.mk (legalC_len p)
  clear h200 hmx hT
  generalize legalL p = l at *
  generalize legalC p = k at *
  generalize endS p = en at *
  go_enter Tryz.func9, Tryz.ntmps9
  go_wp2_with fail
  generalize w.alloc (.cells #[.string p.cells, .int .i64 p.side, .int .i64 p.clock, .int .i64 p.full] 33) = W1 at *
  obtain ⟨e0, e1, e2, e3⟩ := HP0.out.box
  have HP1 := Aside0.mk (HP0.out.below (pw_below_drewN (Below.refl _ _) 1) : LmAt w W1.drew p)
  clear HP0
  go_region_held3 (fun W => W.cell? ⟨w.heap.size, 0, none⟩ = some (.string p.cells) ∧ W.cell? ⟨w.heap.size, 1, none⟩ = some (.int .i64 p.side) ∧ W.cell? ⟨w.heap.size, 2, none⟩ = some (.int .i64 p.clock) ∧ W.cell? ⟨w.heap.size, 3, none⟩ = some (.int .i64 p.full)) (go_keep)
    (first
      | (go_at_call 40; refine (HM.out _ (HT.out _ HP1.out.bel)).mono ?_; rintro e w2 ⟨v1, rfl, h1, hb⟩; have HV1 := Aside0.mk h1.reads; have HP2 := Aside0.mk (HP1.out.below hb); clear HP1 h1 hb e0 e1 e2 e3; obtain ⟨e0, e1, e2, e3⟩ := HP2.out.box)
      | (go_at_call 41; refine (HRM.out _).mono ?_; rintro e w3 ⟨v2, rfl, h2, hb⟩; have HV2 := Aside0.mk h2.reads; have HV1' := Aside0.mk (HV1.out.below hb); have HP3 := Aside0.mk (HP2.out.below hb); clear HP2 HV1 h2 hb e0 e1 e2 e3; obtain ⟨e0, e1, e2, e3⟩ := HP3.out.box)
      | (go_at_call 39; refine (rsame_c l HLL.out _ _ _ _ _ HV1'.out HV2.out).mono ?_; rintro e w4 ⟨rfl, hb⟩; have HP4 := Aside0.mk (HP3.out.below hb); clear HP3 HV1' HV2 hb e0 e1 e2 e3; obtain ⟨e0, e1, e2, e3⟩ := HP4.out.box)
      | (go_at_call 42; refine (HC.out _ (HT.out _ HP4.out.bel)).mono ?_; rintro e w5 ⟨v3, rfl, h1, hb⟩; have HV3 := Aside0.mk h1.reads; have HP5 := Aside0.mk (HP4.out.below hb); clear HP4 h1 hb e0 e1 e2 e3; obtain ⟨e0, e1, e2, e3⟩ := HP5.out.box)
      | (go_at_call 43; refine (HRC.out _).mono ?_; rintro e w6 ⟨v4, rfl, h2, hb⟩; have HV4 := Aside0.mk h2.reads; have HV3' := Aside0.mk (HV3.out.below hb); have HP6 := Aside0.mk (HP5.out.below hb); clear HP5 HV3 h2 hb e0 e1 e2 e3; obtain ⟨e0, e1, e2, e3⟩ := HP6.out.box)
      | (go_at_call 39; refine (rsame_c k HLK.out _ _ _ _ _ HV3'.out HV4.out).mono ?_; rintro e w7 ⟨rfl, hb⟩; have HP7 := Aside0.mk (HP6.out.below hb); clear HP6 HV3' HV4 hb e0 e1 e2 e3; obtain ⟨e0, e1, e2, e3⟩ := HP7.out.box)
      | (go_at_call 44; refine (HE.out _ (HT.out _ HP7.out.bel)).mono ?_; rintro e w8 ⟨rfl, hb⟩; have HP8 := Aside0.mk (HP7.out.below hb); clear HP7 hb e0 e1 e2 e3; obtain ⟨e0, e1, e2, e3⟩ := HP8.out.box)
      | (go_at_call 45; refine (HRE.out _).mono ?_; rintro e w9 ⟨rfl, hb⟩; have HP9 := Aside0.mk (HP8.out.below hb); clear HP8 hb e0 e1 e2 e3; obtain ⟨e0, e1, e2, e3⟩ := HP9.out.box)
      | (go_at_call 38; refine (HLV.out _ (HT.out _ HP9.out.bel)).mono ?_; rintro e w10 ⟨rfl, hb⟩; have HP10 := Aside0.mk (HP9.out.below hb); clear HP9 hb e0 e1 e2 e3; obtain ⟨e0, e1, e2, e3⟩ := HP10.out.box))
  all_goals
    go_wp2_with fail
    go_ret
    exact ⟨rfl, HP10.out.bel⟩
end Go.Proofs.YtllbkppdkldmiaaGreatDoor.K
