/- Walks and plain laws that several statements lean on, joined: no statement of the seat is proved here. -/
import Derived.Deep.LoopGhost
import Derived.Deep.RegionHeld3
import Derived.Lib.SlBytesConst
import Derived.Lib.SlicesCompact
import Derived.Test.YtcanbidenhcohaaGreatB1

/- Walks: the reference of reach. -/
namespace Go.Proofs.YtcanbidenhcohaaGreat.K
open Go.RowKit Go.Lib Go.Proofs.YtcanbidenhcohaaGreatW.PrintWords Go.Proofs.YtcanbidenhcohaaGreat.Sp
set_option linter.unusedVariables false
set_option linter.unusedSimpArgs false
attribute [local go_sem] cel_get   -- for this text's walks alone
theorem beq46 (x : Nat) : ((x : Int) == 46) = (x == 46) := by rw [Bool.eq_iff_iff, beq_iff_eq, beq_iff_eq]; omega
theorem bne46 (x : Nat) : ((x : Int) != 46) = (x != 46) := by rw [bne, beq46, bne]
theorem rhalf_c (s : ByteArray) (p q a st : Nat) (hp : p < 90) (hq : q < 90) (h1 : q > p → a + st < s.size) (h2 : ¬ q > p → st ≤ a ∧ a < s.size) (ha : a < 90) (hst : st < 10) (w : World) :
    Calls Tryz.prog 96 #[.int .i64 (p : Int), .int .i64 (q : Int), .int .i64 (a : Int), .string s, .int .i64 (st : Int)] w fun e w' => e = .returned (.bool (cel s (if q > p then a + st else a - st) == 46)) ∧ w' = w := by
  by_cases h : q > p
  · have k0 : decide (p < q) = true := decide_eq_true (by omega)
    have k1 : 0 ≤ (a : Int) + (st : Int) := by omega
    have k2 : (a : Int) + (st : Int) < (s.size : Int) := by have := h1 h; omega
    have k3 : (a : Int) + (st : Int) ≤ 100 := by omega
    have k4 : ((a : Int) + (st : Int)).toNat = a + st := by omega
    rw [if_pos h]
    clear h h1 h2 hp hq ha hst
    go_enter Tryz.func96, Tryz.ntmps96
    go_wp2_with fail
    go_ret
    exact ⟨ret_bool (beq46 _), rfl⟩
  · have k0 : decide (p < q) = false := decide_eq_false (by omega)
    have k1 : 0 ≤ (a : Int) - (st : Int) := by have := h2 h; omega
    have k5 : (st : Int) ≤ (a : Int) := by have := h2 h; omega
    have k2 : (a : Int) - (st : Int) < (s.size : Int) := by have := h2 h; omega
    have k3 : (a : Int) - (st : Int) ≤ 100 := by omega
    have k4 : ((a : Int) - (st : Int)).toNat = a - st := by omega
    rw [if_neg h]
    clear h h1 h2 hp hq ha hst
    go_enter Tryz.func96, Tryz.ntmps96
    go_wp2_with fail
    go_ret
    exact ⟨ret_bool (beq46 _), rfl⟩
set_option maxRecDepth 100000 in
theorem rhorse_c (s : ByteArray) (hs : s.size = 90) (a b : Nat) (ha : a < 90) (hb : b < 90) (w : World) : Calls Tryz.prog 71 #[.string s, .int .i64 (a : Int), .int .i64 (b : Int)] w fun e w' => e = .returned (.bool (horseN (cel s) a b)) ∧ w' = w := by
  have HF := away_c (a % 9) (b % 9) (by omega) (by omega) w
  have HR := away_c (a / 9) (b / 9) (by omega) (by omega) w
  rw [show ((a % 9 : Nat) : Int) = (a : Int) % 9 by omega, show ((b % 9 : Nat) : Int) = (b : Int) % 9 by omega] at HF
  rw [show ((a / 9 : Nat) : Int) = (a : Int) / 9 by omega, show ((b / 9 : Nat) : Int) = (b : Int) / 9 by omega] at HR
  have HF := Aside0.mk HF
  have HR := Aside0.mk HR
  have a0 : 0 ≤ (a : Int) := by omega
  have a1 : (a : Int) < 90 := by omega
  have b0 : 0 ≤ (b : Int) := by omega
  have b1 : (b : Int) < 90 := by omega
  by_cases h1 : away (a % 9) (b % 9) = 1 ∧ away (a / 9) (b / 9) = 2
  · have hr2 := h1.2
    have HH := rhalf_c s (a / 9) (b / 9) a 9 (by omega) (by omega) (by intro h; rw [hs]; unfold away at hr2; split at hr2 <;> omega) (by intro h; rw [hs]; unfold away at hr2; split at hr2 <;> omega) ha (by omega) w
    rw [show ((a / 9 : Nat) : Int) = (a : Int) / 9 by omega, show ((b / 9 : Nat) : Int) = (b : Int) / 9 by omega, show ((9 : Nat) : Int) = 9 from rfl] at HH
    rw [show horseN (cel s) a b = (cel s (if b / 9 > a / 9 then a + 9 else a - 9) == 46) by unfold horseN legN; rw [h1.1, h1.2]; simp]
    have HH := Aside0.mk HH
    rw [h1.1] at HF; rw [h1.2] at HR
    clear h1 hr2 hs ha hb
    generalize (if b / 9 > a / 9 then a + 9 else a - 9) = z at HH ⊢
    go_enter Tryz.func71, Tryz.ntmps71
    go_wp2_with (first | (go_at_call 70; (with_reducible refine HF.out.mono ?_); rintro e w' ⟨rfl, rfl⟩) | (go_at_call 70; (with_reducible refine HR.out.mono ?_); rintro e w' ⟨rfl, rfl⟩) | (go_at_call 96; (with_reducible refine HH.out.mono ?_); rintro e w' ⟨rfl, rfl⟩))
    go_ret
    exact ⟨rfl, rfl⟩
  by_cases h1' : away (a % 9) (b % 9) = 2 ∧ away (a / 9) (b / 9) = 1
  · have h1 := h1'
    have hr2 := h1.1
    clear h1'
    have HH := rhalf_c s (a % 9) (b % 9) a 1 (by omega) (by omega) (by intro h; rw [hs]; unfold away at hr2; split at hr2 <;> omega) (by intro h; rw [hs]; unfold away at hr2; split at hr2 <;> omega) ha (by omega) w
    rw [show ((a % 9 : Nat) : Int) = (a : Int) % 9 by omega, show ((b % 9 : Nat) : Int) = (b : Int) % 9 by omega, show ((1 : Nat) : Int) = 1 from rfl] at HH
    rw [show horseN (cel s) a b = (cel s (if b % 9 > a % 9 then a + 1 else a - 1) == 46) by unfold horseN legN; rw [h1.1, h1.2]; simp]
    have HH := Aside0.mk HH
    rw [h1.1] at HF; rw [h1.2] at HR
    clear h1 hr2 hs ha hb
    generalize (if b % 9 > a % 9 then a + 1 else a - 1) = z at HH ⊢
    go_enter Tryz.func71, Tryz.ntmps71
    go_wp2_with (first | (go_at_call 70; (with_reducible refine HF.out.mono ?_); rintro e w' ⟨rfl, rfl⟩) | (go_at_call 70; (with_reducible refine HR.out.mono ?_); rintro e w' ⟨rfl, rfl⟩) | (go_at_call 96; (with_reducible refine HH.out.mono ?_); rintro e w' ⟨rfl, rfl⟩))
    go_ret
    exact ⟨rfl, rfl⟩
  · rw [show horseN (cel s) a b = false by unfold horseN; simp only [Bool.and_eq_false_iff, Bool.or_eq_false_iff, beq_eq_false_iff_ne]; left; omega]
    have HH := HF
    generalize away (a % 9) (b % 9) = f at *
    generalize away (a / 9) (b / 9) = r at *
    have q1 : ((f : Int) == 1) = decide (f = 1) := by rw [Bool.eq_iff_iff]; simp; omega
    have q2 : ((f : Int) == 2) = decide (f = 2) := by rw [Bool.eq_iff_iff]; simp; omega
    have q3 : ((r : Int) == 1) = decide (r = 1) := by rw [Bool.eq_iff_iff]; simp; omega
    have q4 : ((r : Int) == 2) = decide (r = 2) := by rw [Bool.eq_iff_iff]; simp; omega
    clear hs ha hb
    go_enter Tryz.func71, Tryz.ntmps71
    go_wp2_with (first | (go_at_call 70; (with_reducible refine HF.out.mono ?_); rintro e w' ⟨rfl, rfl⟩) | (go_at_call 70; (with_reducible refine HR.out.mono ?_); rintro e w' ⟨rfl, rfl⟩) | (go_at_call 96; (with_reducible refine HH.out.mono ?_); rintro e w' ⟨rfl, rfl⟩))
    all_goals first | (exfalso; simp_all; done) | (exfalso; omega) | (go_ret; exact ⟨rfl, rfl⟩)
set_option maxRecDepth 100000 in
theorem rpawn_c (side : Int) (hs : side = 0 ∨ side = 1) (a b : Nat) (ha : a < 90) (hb : b < 90) (w : World) : Calls Tryz.prog 73 #[.int .i64 side, .int .i64 (a : Int), .int .i64 (b : Int)] w fun e w' => e = .returned (.bool (pawnN side a b)) ∧ w' = w := by
  have HO := Aside0.mk (rover_c a ha side hs w)
  have HA := Aside0.mk (away_c a b ha hb w)
  have a0 : 0 ≤ (a : Int) := by omega
  have a1 : (a : Int) < 90 := by omega
  have b0 : 0 ≤ (b : Int) := by omega
  have b1 : (b : Int) < 90 := by omega
  have hz : away a b < 90 := by unfold away; split <;> omega
  have hp : pawnN side a b = ((if side = 1 then b + 9 == a else b == a + 9) || (overN a side && a / 9 == b / 9 && away a b == 1)) := rfl
  have HP := Aside0.mk hp
  clear hp
  generalize overN a side = o at *
  generalize hd : away a b = d at *
  have HD := Aside0.mk hd
  clear hd ha hb
  rcases hs with rfl | rfl
  all_goals
    go_enter Tryz.func73, Tryz.ntmps73
    go_wp2_with (first | (go_at_call 97; refine HO.out.mono ?_; rintro e w' ⟨rfl, rfl⟩) | (go_at_call 70; refine HA.out.mono ?_; rintro e w' ⟨rfl, rfl⟩))
  all_goals
    go_ret
    refine ⟨ret_bool ?_, rfl⟩
    have h := HP.out
    clear HP HO HA HD
    rw [h, Bool.eq_iff_iff]
    simp only [beq_iff_eq, Bool.or_eq_true, Bool.and_eq_true, beq_eq_false_iff_ne, ne_eq, if_true, show ((0 : Int) = 1) = False by simp, if_false, bne_iff_ne, decide_eq_true_eq, Bool.true_eq_false, Bool.false_eq_true] at *
    try omega
    try (simp_all; omega)
set_option maxRecDepth 100000 in
set_option maxHeartbeats 1000000 in
theorem rcan_c (s : ByteArray) (hs : isBoard s = true) (a b : Nat) (ha : a < 90) (hb : b < 90) (h0 : 0 ≤ sideN (cel s a)) (w : World) : Calls Tryz.prog 44 #[.string s, .int .i64 (a : Int), .int .i64 (b : Int)] w fun e w' => e = .returned (.bool (canN (cel s) a b)) ∧ w' = w := by
  have hsz := board_size hs
  have HF := away_c (a % 9) (b % 9) (by omega) (by omega) w
  have HR := away_c (a / 9) (b / 9) (by omega) (by omega) w
  rw [show ((a % 9 : Nat) : Int) = (a : Int) % 9 by omega, show ((b % 9 : Nat) : Int) = (b : Int) % 9 by omega] at HF
  rw [show ((a / 9 : Nat) : Int) = (a : Int) / 9 by omega, show ((b / 9 : Nat) : Int) = (b : Int) / 9 by omega] at HR
  have HF := Aside0.mk HF
  have HR := Aside0.mk HR
  have HK := Aside0.mk (rkind_c (cel s a) (cel_lt s a) w)
  have HS := Aside0.mk (rside_c (cel s a) (cel_lt s a) w)
  have HM := Aside0.mk (rmay_c (cel s a) h0 b hb w)
  have HH := Aside0.mk (rhorse_c s hsz a b ha hb w)
  have HB := Aside0.mk (rbetween_c s hsz a b ha hb w)
  have HP := Aside0.mk (rpawn_c (sideN (cel s a)) (side01 h0) a b ha hb w)
  have a0 : 0 ≤ (a : Int) := by omega
  have a1 : (a : Int) < 90 := by omega
  have b0 : 0 ≤ (b : Int) := by omega
  have b1 : (b : Int) < 90 := by omega
  have z0 : (a : Int) < (s.size : Int) := by omega
  have z1 : (b : Int) < (s.size : Int) := by omega
  have z2 : ((a : Int) + (b : Int)) / 2 < (s.size : Int) := by omega
  have z3 : 0 ≤ ((a : Int) + (b : Int)) / 2 := by omega
  have z4 : (((a : Int) + (b : Int)) / 2).toNat = (a + b) / 2 := by omega
  have w1 : away (a % 9) (b % 9) < 10 := by unfold away; split <;> omega
  have w2 : away (a / 9) (b / 9) < 10 := by unfold away; split <;> omega
  have hk := kinds h0
  unfold canN
  generalize away (a % 9) (b % 9) = f at *
  generalize away (a / 9) (b / 9) = r at *
  generalize mayN (cel s a) b = m at *
  generalize horseN (cel s) a b = hh at *
  generalize betwN (cel s) a b = bt at *
  generalize pawnN (sideN (cel s a)) a b = pp at *
  generalize sideN (cel s a) = sd at *
  generalize hcb : cel s b = y at *
  generalize hcm : cel s ((a + b) / 2) = v at *
  have f1 : (f : Int) < 10 := by omega
  have r1 : (r : Int) < 10 := by omega
  have f0 : 0 ≤ (f : Int) := by omega
  have r0 : 0 ≤ (r : Int) := by omega
  clear hs ha hb h0 hsz w1 w2
  rcases hk with hk | hk | hk | hk | hk | hk | hk
  all_goals
    rw [hk] at HK
    simp only [hk, if_true, if_false, reduceCtorEq, Nat.reduceEqDiff]
    clear hk
    go_enter Tryz.func44, Tryz.ntmps44
    go_wp2_with (first | (go_at_call 70; (with_reducible refine HF.out.mono ?_); rintro e w' ⟨rfl, rfl⟩) | (go_at_call 70; (with_reducible refine HR.out.mono ?_); rintro e w' ⟨rfl, rfl⟩) | (go_at_call 26; refine HK.out.mono ?_; rintro e w' ⟨rfl, rfl⟩) | (go_at_call 24; refine HS.out.mono ?_; rintro e w' ⟨rfl, rfl⟩) | (go_at_call 31; refine HM.out.mono ?_; rintro e w' ⟨rfl, rfl⟩) | (go_at_call 71; refine HH.out.mono ?_; rintro e w' ⟨rfl, rfl⟩) | (go_at_call 72; refine HB.out.mono ?_; rintro e w' ⟨rfl, rfl⟩) | (go_at_call 73; refine HP.out.mono ?_; rintro e w' ⟨rfl, rfl⟩))
  all_goals
    go_ret
    first
    | exact ⟨rfl, rfl⟩
    | (refine ⟨ret_bool ?_, rfl⟩
       clear HF HR HK HS HM HH HB HP
       rw [Bool.eq_iff_iff]; simp_all
       try omega)
/-- What the reference's Fast tells of a board and squares. -/
theorem rfast_c (s : ByteArray) (hs : isBoard s = true) (a b : Nat) (ha : a < 90) (hb : b < 90) (w : World) : Calls Tryz.prog 25 #[.string s, .int .i64 (a : Int), .int .i64 (b : Int)] w fun e w' => e = .returned (.bool (fastN (cel s) a b)) ∧ w' = w := by
  have hsz := board_size hs
  have HSA := Aside0.mk (rside_c (cel s a) (cel_lt s a) w)
  have HSB := Aside0.mk (rside_c (cel s b) (cel_lt s b) w)
  have a0 : 0 ≤ (a : Int) := by omega
  have b0 : 0 ≤ (b : Int) := by omega
  have z0 : (a : Int) < (s.size : Int) := by omega
  have z1 : (b : Int) < (s.size : Int) := by omega
  by_cases h0 : 0 ≤ sideN (cel s a)
  · have HC := Aside0.mk (rcan_c s hs a b ha hb h0 w)
    have s0 : decide (sideN (cel s a) < 0) = false := decide_eq_false (by omega)
    unfold fastN
    rw [decide_eq_true h0, Bool.true_and]
    generalize canN (cel s) a b = cc at *
    generalize sideN (cel s a) = p at *
    generalize sideN (cel s b) = q at *
    clear hs hsz ha hb h0
    cases hqp : (q == p)
    all_goals
      rw [bne, hqp]
      go_enter Tryz.func25, Tryz.ntmps25
      go_wp2_with (first | (go_at_call 24; (with_reducible refine HSA.out.mono ?_); rintro e w' ⟨rfl, rfl⟩) | (go_at_call 24; (with_reducible refine HSB.out.mono ?_); rintro e w' ⟨rfl, rfl⟩) | (go_at_call 44; refine HC.out.mono ?_; rintro e w' ⟨rfl, rfl⟩))
      go_ret
      exact ⟨rfl, rfl⟩
  · have s0 : decide (sideN (cel s a) < 0) = true := decide_eq_true (by omega)
    unfold fastN
    rw [decide_eq_false h0, Bool.false_and, Bool.false_and]
    generalize sideN (cel s a) = p at *
    clear hs hsz ha hb h0 HSB
    go_enter Tryz.func25, Tryz.ntmps25
    go_wp2_with (first | (go_at_call 24; (with_reducible refine HSA.out.mono ?_); rintro e w' ⟨rfl, rfl⟩))
    go_ret
    exact ⟨rfl, rfl⟩
end Go.Proofs.YtcanbidenhcohaaGreat.K

/- Walks: place.Check. -/
namespace Go.Proofs.YtcanbidenhcohaaGreat.K
open Go.RowKit Go.Lib Go.Proofs.YtcanbidenhcohaaGreatW.PrintWords Go.Proofs.YtcanbidenhcohaaGreat.Sp
set_option linter.unusedVariables false
set_option linter.unusedSimpArgs false
attribute [local go_sem] cel_get   -- for this text's walks alone
/-- A position. -/
structure Pos where
  cells : ByteArray
  side : Int
  clock : Int
  full : Int
abbrev posV (p : Pos) : Value := .agg #[.string p.cells, .int .i64 p.side, .int .i64 p.clock, .int .i64 p.full]
/-- How many squares of the first n hold x. -/
def cntX (s : ByteArray) (n x : Nat) : Nat := (List.range n).countP (fun i => cel s i == x)
theorem cntX_succ (s : ByteArray) (n x : Nat) : cntX s (n + 1) x = cntX s n x + (if cel s n = x then 1 else 0) := by
  unfold cntX
  rw [List.range_succ, List.countP_append]
  simp [List.countP_cons]
theorem cntX_le (s : ByteArray) (n x : Nat) : cntX s n x ≤ n := by
  unfold cntX
  exact Nat.le_trans List.countP_le_length (by simp)
/-- The first n squares are such that their pieces may stand there. -/
def rightX (s : ByteArray) (n : Nat) : Bool := (List.range n).all (fun i => cel s i == 46 || mayN (cel s i) i)
theorem rightX_succ (s : ByteArray) (n : Nat) : rightX s (n + 1) = (rightX s n && (cel s n == 46 || mayN (cel s n) n)) := by
  unfold rightX; rw [List.range_succ, List.all_append]; simp
def pieces14 : List Nat := [75, 65, 66, 78, 82, 67, 80, 107, 97, 98, 110, 114, 99, 112]
/-- There are too many of a piece, or no general. -/
def badX (s : ByteArray) (x : Nat) : Bool := decide (mostN x < cntX s 90 x) || (kindN x == 75 && cntX s 90 x != 1)
def argOk (p : Pos) : Bool := isBoard p.cells && decide ((p.side = 0 ∨ p.side = 1) ∧ 0 ≤ p.clock ∧ p.clock ≤ 120 ∧ 1 ≤ p.full ∧ p.full ≤ 9999)
/-- What is wrong with a position, but for checks. -/
def checkP (p : Pos) : Int :=
  if argOk p = false then 1 else if pieces14.any (badX p.cells) = true then 3 else if rightX p.cells 90 = false then 2 else 0
theorem argOk_no {p : Pos} (h : argOk p = false) : isBoard p.cells = false ∨ ¬ (p.side = 0 ∨ p.side = 1) ∨ p.clock < 0 ∨ 120 < p.clock ∨ p.full < 1 ∨ 9999 < p.full := by
  unfold argOk at h
  cases hb : isBoard p.cells
  · exact .inl rfl
  · rw [hb] at h
    simp only [Bool.true_and, decide_eq_false_iff_not] at h
    omega
theorem argOk_yes {p : Pos} (h : argOk p = true) : isBoard p.cells = true ∧ (p.side = 0 ∨ p.side = 1) ∧ 0 ≤ p.clock ∧ p.clock ≤ 120 ∧ 1 ≤ p.full ∧ p.full ≤ 9999 := by
  unfold argOk at h
  simp only [Bool.and_eq_true, decide_eq_true_eq] at h
  exact ⟨h.1, h.2.1, h.2.2.1, h.2.2.2.1, h.2.2.2.2.1, h.2.2.2.2.2⟩
theorem zero256 : Tryz.zeroCells51 = Array.replicate 256 (.int .i64 0) := by kernel_rfl
/-- What Check's first loop keeps: the position's box, the counts. -/
structure ChkAt (w0 W : World) (s : ByteArray) (bx b n : Nat) : Prop where
  box : W.cell? ⟨bx, 0, none⟩ = some (.string s)
  cnt : ∀ x, x < 256 → W.cell? ⟨b, x, none⟩ = some (.int .i64 (cntX s n x : Int))
  fz : ∀ x, W.frozen? ⟨b, x, none⟩ = false
  bel : Below w0.heap.size w0 W
  lt : bx < b ∧ b < W.heap.size ∧ w0.heap.size ≤ bx
theorem ChkAt.below {w0 W W' : World} {s : ByteArray} {bx b n : Nat} (h : ChkAt w0 W s bx b n) (hb : Below W.heap.size W W') : ChkAt w0 W' s bx b n :=
  ⟨(hb.cell (p := ⟨bx, 0, none⟩) (by have := h.lt; show bx < _; omega)).trans h.box, fun x hx => (hb.cell (p := ⟨b, x, none⟩) h.lt.2.1).trans (h.cnt x hx), fun x => (hb.frozen (p := ⟨b, x, none⟩) h.lt.2.1).trans (h.fz x), h.bel.trans (hb.mono h.bel.size), ⟨h.lt.1, Nat.lt_of_lt_of_le h.lt.2.1 hb.size, h.lt.2.2⟩⟩
theorem ChkAt.count {w0 W : World} {s : ByteArray} {bx b n : Nat} (h : ChkAt w0 W s bx b n) : ChkAt w0 (W.setCell ⟨b, cel s n, none⟩ (.int .i64 ((cntX s n (cel s n) : Int) + 1))) s bx b (n + 1) := by
  have hlt := h.lt
  refine ⟨(World.cell?_setCell_other _ _ _ _ (by intro e; injection e with e1; omega)).trans h.box, ?_, fun x => by rw [World.frozen?_setCell]; exact h.fz x, h.bel.setCell (by show w0.heap.size ≤ b; omega) _, ⟨hlt.1, by simp [World.setCell]; exact hlt.2.1, hlt.2.2⟩⟩
  intro x hx
  rw [cntX_succ]
  by_cases hc : cel s n = x
  · subst hc
    rw [if_pos rfl, World.cell?_setCell_same' _ _ _ (by rw [h.cnt _ hx]; rfl)]
    rfl
  · rw [if_neg hc, World.cell?_setCell_other _ _ _ _ (by intro e; injection e with _ e2; exact hc e2)]
    exact h.cnt x hx
theorem ChkAt.start {w0 w1 : World} {s : ByteArray} {bx : Nat} (h : w1.cell? ⟨bx, 0, none⟩ = some (.string s)) (hb : Below w0.heap.size w0 w1) (hz : bx < w1.heap.size) (hz0 : w0.heap.size ≤ bx) :
    ChkAt w0 (w1.alloc (.cells Tryz.zeroCells51 51)) s bx w1.heap.size 0 := by
  rw [zero256]
  refine ⟨?_, ?_, fun x => by simp, below_alloc hb _, hz, by simp, hz0⟩
  · rw [World.cell?_alloc_past _ _ _ hz]; exact h
  · intro x hx
    simp [hx, cntX]
theorem piece14 : ∀ i, i < 14 → (#[Value.int .u8 75, .int .u8 65, .int .u8 66, .int .u8 78, .int .u8 82, .int .u8 67, .int .u8 80, .int .u8 107, .int .u8 97, .int .u8 98, .int .u8 110, .int .u8 114, .int .u8 99, .int .u8 112] : Array Value)[i]? = some (.int .u8 (pieces14.getD i 0 : Int)) := by
  intro i hi
  match i, hi with
  | 0, _ | 1, _ | 2, _ | 3, _ | 4, _ | 5, _ | 6, _ | 7, _ | 8, _ | 9, _ | 10, _ | 11, _ | 12, _ | 13, _ => rfl
theorem may_square {s : ByteArray} (hs : isBoard s = true) {n : Nat} (hn : n < 90) (h : cel s n ≠ 46) : mayS (cel s n) (n : Int) = mayN (cel s n) n := by
  have h2 : ∀ x ∈ letters, x ≠ 46 → 0 ≤ sideN x := by decide
  unfold mayS
  rw [decide_eq_true ⟨h2 _ (board_cell hs hn) h, by omega, by omega⟩, Bool.true_and]
  rfl
theorem piece_lt : ∀ i, i < 14 → pieces14.getD i 0 < 256 := by decide
theorem kindN_q (x : Nat) : ((kindN x : Int) == 75) = (kindN x == 75) := by rw [Bool.eq_iff_iff, beq_iff_eq, beq_iff_eq]; omega
theorem any14 (s : ByteArray) (i : Nat) (hi : i < 14) (h : badX s (pieces14.getD i 0) = true) : pieces14.any (badX s) = true := by
  rw [List.any_eq_true]
  refine ⟨_, ?_, h⟩
  rw [List.getD_eq_getElem?_getD, List.getElem?_eq_getElem (show i < pieces14.length from hi)]
  exact List.getElem_mem _
theorem none14 (s : ByteArray) (h : ∀ j, j < 14 → badX s (pieces14.getD j 0) = false) : pieces14.any (badX s) = false := by
  rw [List.any_eq_false]
  intro x hx
  obtain ⟨j, hj, rfl⟩ := List.getElem_of_mem hx
  have := h j hj
  rw [List.getD_eq_getElem?_getD, List.getElem?_eq_getElem hj] at this
  simpa using this
set_option maxRecDepth 100000 in
set_option maxHeartbeats 4000000 in
theorem check_c (p : Pos) (w : World) : Calls Tryz.prog 18 #[posV p] w fun e w' => e = .returned (.int .i64 (checkP p)) ∧ Below w.heap.size w w' := by
  have HI := Aside0.mk (fun W => is_c p.cells W)
  have hu := Tryz.underlying23
  cases ha : argOk p
  case false =>
    rw [show checkP p = 1 by unfold checkP; rw [if_pos ha]]
    have HN := Aside0.mk (argOk_no ha)
    have h1 : (p.side == 0) = decide (p.side = 0) := by rw [Bool.eq_iff_iff]; simp
    have h2 : (p.side == 1) = decide (p.side = 1) := by rw [Bool.eq_iff_iff]; simp
    clear ha
    generalize isBoard p.cells = bb at HI HN
    go_enter Tryz.func18, Tryz.ntmps18
    go_wp2_with (go_at_call 32; refine (HI.out _).mono ?_; rintro e w1 ⟨rfl, hb⟩; have HB := Aside0.mk ((below_alloc (Below.refl w.heap.size w) _).trans (hb.mono (by simp))); have c0 := (hb.cell (p := ⟨w.heap.size, 0, none⟩) (by simp)).trans (show _ = some (Value.string p.cells) by simp); have c1 := (hb.cell (p := ⟨w.heap.size, 1, none⟩) (by simp)).trans (show _ = some (Value.int .i64 p.side) by simp); have c2 := (hb.cell (p := ⟨w.heap.size, 2, none⟩) (by simp)).trans (show _ = some (Value.int .i64 p.clock) by simp); have c3 := (hb.cell (p := ⟨w.heap.size, 3, none⟩) (by simp)).trans (show _ = some (Value.int .i64 p.full) by simp); clear hb)
    all_goals
      first
      | (go_ret; exact ⟨rfl, HB.out⟩)
      | (exfalso
         have hn := HN.out
         clear HN HB HI
         simp_all
         done)
      | (exfalso
         have hn := HN.out
         clear HN HB HI
         simp_all
         omega)
  obtain ⟨hbd, hsd, hc1, hc2, hf1, hf2⟩ := argOk_yes ha
  rw [hbd] at HI
  have HP := Aside0.mk (show checkP p = if pieces14.any (badX p.cells) = true then 3 else if rightX p.cells 90 = false then 2 else 0 by unfold checkP; rw [ha]; rfl)
  have HSZ := Aside0.mk (board_size hbd)
  have HBD := Aside0.mk hbd
  clear ha hbd
  have HSD := Aside0.mk hsd
  rcases hsd with hsd | hsd
  case' inl =>
    have hs0 : (p.side != 0) = false := by simp [hsd]
    have hs1 : (p.side != 1) = true := by simp [hsd]
  case' inr =>
    have hs0 : (p.side != 0) = true := by simp [hsd]
    have hs1 : (p.side != 1) = false := by simp [hsd]
  all_goals clear hsd
  all_goals
    go_enter Tryz.func18, Tryz.ntmps18
    go_wp2_with fail
    refine (HI.out _).mono ?_
    rintro e w1 ⟨rfl, hb⟩
    have HB := Aside0.mk ((below_alloc (Below.refl w.heap.size w) _).trans (hb.mono (by simp)))
    have c0 := (hb.cell (p := ⟨w.heap.size, 0, none⟩) (by simp)).trans (show _ = some (Value.string p.cells) by simp)
    have c1 := (hb.cell (p := ⟨w.heap.size, 1, none⟩) (by simp)).trans (show _ = some (Value.int .i64 p.side) by simp)
    have c2 := (hb.cell (p := ⟨w.heap.size, 2, none⟩) (by simp)).trans (show _ = some (Value.int .i64 p.clock) by simp)
    have c3 := (hb.cell (p := ⟨w.heap.size, 3, none⟩) (by simp)).trans (show _ = some (Value.int .i64 p.full) by simp)
    have hz : w.heap.size < w1.heap.size := by have := hb.size; simp at this; omega
    have HC0 := Aside0.mk (ChkAt.start c0 HB.out hz (Nat.le_refl _))
    clear hb
    go_wp2_with fail
    generalize hW : w1.alloc (.cells Tryz.zeroCells51 51) = W0 at HC0 ⊢
    generalize hB : w1.heap.size = b at HC0 ⊢
    clear hW hB c0 c1 c2 c3 hz HB hs0 hs1 hc1 hc2 hf1 hf2
    go_loopg [4, 43] 90 (fun gg s4 s43 wr => ∃ i : Nat, s43 = .int .i64 i ∧ i + gg = 90 ∧ s4 = .bool (rightX p.cells i) ∧ Aside0 (ChkAt w wr p.cells w.heap.size b i))
    case atStart => exact ⟨0, rfl, by omega, rfl, HC0⟩
    case round =>
      obtain ⟨i, rfl, hig, rfl, HC⟩ := hrel
      have HG := Aside0.mk hig
      by_cases hlt : i < 90
      · have k0 : 0 ≤ (i : Int) := by omega
        have k1 : (i : Int) < 90 := by omega
        have k2 : (i : Int) < (p.cells.size : Int) := by have := HSZ.out; omega
        have hcx := cntX_le p.cells i (cel p.cells i)
        have hnx := HC.out.count
        have hm := may_square HBD.out hlt
        have hr := rightX_succ p.cells i
        have hcl := cel_lt p.cells i
        have HMC := Aside0.mk (fun W => may_c (cel p.cells i) hcl (i : Int) W)
        have hcell := HC.out.cnt (cel p.cells i) hcl
        have hfr := HC.out.fz (cel p.cells i)
        have hbox := HC.out.box
        generalize hx : cel p.cells i = x at *
        generalize hrr : rightX p.cells i = rr at *
        have c0 : 0 ≤ (x : Int) := by omega
        have c1 : (x : Int) < 256 := by omega
        have c2 : (cntX p.cells i x : Int) ≤ 90 := by omega
        generalize cntX p.cells i x = cc at *
        have q := beq46 x
        have HNX := Aside0.mk hnx
        have HM := Aside0.mk hm
        have HRS := Aside0.mk hr
        have HXE := Aside0.mk hx
        have HRR := Aside0.mk hrr
        clear hnx hm hr hrr hig hcx hcl
        cases rr
        all_goals cases h46 : (x == 46)
        all_goals
          rw [h46] at q
          have H46 := Aside0.mk h46
          clear h46
          go_wp2_with fail
        all_goals
          first
          | (go_at_call 33
             refine (HMC.out _).mono ?_
             rintro e w2 ⟨rfl, hb⟩
             have HN2 := Aside0.mk (HNX.out.below hb)
             clear hb
             go_wp2_with fail
             go_roundg (90 - (i + 1))
             case measure => have := HG.out; omega
             case rel => exact ⟨i + 1, by go_num, by have := HG.out; omega, by rw [HRS.out, HM.out (by simpa using H46.out), H46.out]; rfl, HN2⟩)
          | (go_roundg (90 - (i + 1))
             case measure => have := HG.out; omega
             case rel => exact ⟨i + 1, by go_num, by have := HG.out; omega, by rw [HRS.out, H46.out]; rfl, HNX⟩)
      · have hi : i = 90 := by omega
        subst hi
        have hcv := run_convert_bytes_const (P := Tryz.prog) wr 45 5 #[.int .u8 75, .int .u8 65, .int .u8 66, .int .u8 78, .int .u8 82, .int .u8 67, .int .u8 80, .int .u8 107, .int .u8 97, .int .u8 98, .int .u8 110, .int .u8 114, .int .u8 99, .int .u8 112] 14 14 Tryz.underlying45 Tryz.underlying5
        have HC90 := Aside0.mk (HC.out.below (below_alloc (Below.refl wr.heap.size wr) (.cells #[.int .u8 75, .int .u8 65, .int .u8 66, .int .u8 78, .int .u8 82, .int .u8 67, .int .u8 80, .int .u8 107, .int .u8 97, .int .u8 98, .int .u8 110, .int .u8 114, .int .u8 99, .int .u8 112] 5 (14, 15))))
        have HLT : Aside0 (∀ i, i < 14 → (wr.alloc (.cells #[.int .u8 75, .int .u8 65, .int .u8 66, .int .u8 78, .int .u8 82, .int .u8 67, .int .u8 80, .int .u8 107, .int .u8 97, .int .u8 98, .int .u8 110, .int .u8 114, .int .u8 99, .int .u8 112] 5 (14, 15))).cell? ⟨wr.heap.size, i, none⟩ = some (.int .u8 (pieces14.getD i 0 : Int))) :=
          ⟨fun i hi => (World.cell?_alloc_mark wr _ _ _ i).trans (piece14 i hi)⟩
        generalize hrr : rightX p.cells 90 = rr at *
        have HRR := Aside0.mk hrr
        clear HC hrr hig HG
        go_wp2_with (simp only [hcv])
        clear hcv
        generalize wr.alloc (.cells #[.int .u8 75, .int .u8 65, .int .u8 66, .int .u8 78, .int .u8 82, .int .u8 67, .int .u8 80, .int .u8 107, .int .u8 97, .int .u8 98, .int .u8 110, .int .u8 114, .int .u8 99, .int .u8 112] 5 (14, 15)) = W2 at HC90 HLT ⊢
        generalize wr.heap.size = lb at HLT ⊢
        go_loopg [69] 14 (fun gg s69 W3 => ∃ i : Nat, s69 = .int .i64 i ∧ i + gg = 14 ∧ Aside0 (ChkAt w W3 p.cells w.heap.size b 90) ∧ Aside0 (∀ i, i < 14 → W3.cell? ⟨lb, i, none⟩ = some (.int .u8 (pieces14.getD i 0 : Int))) ∧ Aside0 (∀ j, j < i → badX p.cells (pieces14.getD j 0) = false))
        case atStart => exact ⟨0, rfl, by omega, HC90, HLT, ⟨fun j hj => by omega⟩⟩
        case round =>
          clear HC90 HLT
          obtain ⟨i, rfl, hig, HC90, HLT, HBX⟩ := hrel
          have HG := Aside0.mk hig
          by_cases hlt : i < 14
          · have hl := HLT.out i hlt
            have hx := piece_lt i hlt
            have k0 : 0 ≤ (i : Int) := by omega
            have k1 : (i : Int) < 14 := by omega
            have hcell := HC90.out.cnt (pieces14.getD i 0) hx
            have HMO := Aside0.mk (fun W => most_c (pieces14.getD i 0) hx W)
            have HKI := Aside0.mk (fun W => kind_c (pieces14.getD i 0) hx W)
            have hbx : badX p.cells (pieces14.getD i 0) = (decide (mostN (pieces14.getD i 0) < cntX p.cells 90 (pieces14.getD i 0)) || (kindN (pieces14.getD i 0) == 75 && cntX p.cells 90 (pieces14.getD i 0) != 1)) := rfl
            have hcle := cntX_le p.cells 90 (pieces14.getD i 0)
            have hkq := kindN_q (pieces14.getD i 0)
            have HANY := Aside0.mk (any14 p.cells i hlt)
            generalize hxx : pieces14.getD i 0 = x at *
            generalize cntX p.cells 90 x = cc at *
            generalize mostN x = m at *
            generalize kindN x = k at *
            have HBE := Aside0.mk hbx
            have c0 : 0 ≤ (x : Int) := by omega
            have c1 : (x : Int) < 256 := by omega
            have hcq : ((cc : Int) != 1) = (cc != 1) := by rw [Bool.eq_iff_iff, bne_iff_ne, bne_iff_ne]; omega
            have HXX := Aside0.mk hxx
            clear hbx hxx hig hx hcle
            cases b1 : decide (m < cc)
            all_goals cases b2 : (k == 75)
            all_goals cases b3 : (cc != 1)
            all_goals
              rw [b2] at hkq
              rw [b3] at hcq
              have HB123 : Aside0 (badX p.cells x = (decide (m < cc) || (k == 75 && cc != 1))) := HBE
              rw [b1, b2, b3] at HB123
              clear b2 b3
              go_wp2_with fail
              go_quiet (first | (go_at_call 34; exact Calls.quiet_of_same (HMO.out _)) | (go_at_call 21; exact Calls.quiet_of_same (HKI.out _)))
              go_wp2_with fail
              first
              | (go_ret
                 refine ⟨ret_int ?_, ?_⟩
                 · rw [HP.out, if_pos (HANY.out (by rw [HB123.out]; rfl))]
                 · exact pw_below_drewN HC90.out.bel _)
              | (go_roundg (14 - (i + 1))
                 case measure => have := HG.out; omega
                 case rel => exact ⟨i + 1, by go_num, by have := HG.out; omega, ⟨HC90.out.below (pw_below_drewN (Below.refl _ _) _)⟩, ⟨fun i hi => HLT.out i hi⟩, ⟨fun j hj => by
                   by_cases h : j = i
                   · subst h; rw [HXX.out, HB123.out]; rfl
                   · exact HBX.out j (by omega)⟩⟩)
          · have hi : i = 14 := by omega
            subst hi
            have HNA := Aside0.mk (none14 p.cells HBX.out)
            cases rr
            all_goals
              go_wp2_with fail
              go_ret
              refine ⟨ret_int ?_, ?_⟩
              · rw [HP.out, HNA.out]; simp
              · exact HC90.out.bel
end Go.Proofs.YtcanbidenhcohaaGreat.K

/- Plain law: sorted lists without repetition; rays; what a line of sight meets first and second. -/
namespace Go.Proofs.YtcanbidenhcohaaGreat.Sp

/-! ### strictly rising lists -/
theorem rising_eq : ∀ {l l' : List Int}, l.Pairwise (· < ·) → l'.Pairwise (· < ·) → (∀ x, x ∈ l ↔ x ∈ l') → l = l'
  | [], [], _, _, _ => rfl
  | [], y :: l', _, _, h => absurd ((h y).2 List.mem_cons_self) (by simp)
  | x :: l, [], _, _, h => absurd ((h x).1 List.mem_cons_self) (by simp)
  | x :: l, y :: l', h1, h2, h => by
    rw [List.pairwise_cons] at h1 h2
    have hxy : x = y := by
      have a := (h x).1 List.mem_cons_self
      have b := (h y).2 List.mem_cons_self
      rcases List.mem_cons.1 a with a | a
      · exact a
      · rcases List.mem_cons.1 b with b | b
        · exact b.symm
        · have := h1.1 y b
          have := h2.1 x a
          omega
    subst hxy
    congr 1
    refine rising_eq h1.2 h2.2 (fun z => ?_)
    constructor
    · intro hz
      rcases List.mem_cons.1 ((h z).1 (List.mem_cons_of_mem _ hz)) with e | e
      · subst e; exact absurd (h1.1 z hz) (by omega)
      · exact e
    · intro hz
      rcases List.mem_cons.1 ((h z).2 (List.mem_cons_of_mem _ hz)) with e | e
      · subst e; exact absurd (h2.1 z hz) (by omega)
      · exact e

theorem sorted_get {zs : List Int} (h : zs.Pairwise (· ≤ ·)) {i j : Nat} (hij : i ≤ j) (hj : j < zs.length) : zs.toArray[i]! ≤ zs.toArray[j]! := by
  have hi : i < zs.length := by omega
  rw [getElem!_pos zs.toArray i (by simpa using hi), getElem!_pos zs.toArray j (by simpa using hj)]
  simp only [List.getElem_toArray]
  rcases Nat.lt_or_ge i j with h1 | h1
  · exact List.pairwise_iff_getElem.1 h i j hi hj h1
  · have : i = j := by omega
    subst this
    exact Int.le_refl _

theorem compact_mem {zs : List Int} (x : Int) : x ∈ Lib.compact zs ↔ x ∈ zs := by
  unfold Lib.compact Lib.compactUpTo
  rw [List.mem_map]
  constructor
  · rintro ⟨j, hj, rfl⟩
    have hl : j < zs.length := List.mem_range.1 (List.mem_filter.1 hj).1
    rw [getElem!_pos zs.toArray j (by simpa using hl)]
    simp
  · intro hx
    -- the first place of x
    have key : ∀ n, (∃ j, j < n ∧ j < zs.length ∧ zs.toArray[j]! = x) → ∃ j, j < zs.length ∧ zs.toArray[j]! = x ∧ ∀ i, i < j → zs.toArray[i]! ≠ x := by
      intro n
      induction n with
      | zero => rintro ⟨j, hj, _⟩; omega
      | succ n ih =>
        rintro ⟨j, hj, hl, he⟩
        by_cases h : ∃ i, i < n ∧ i < zs.length ∧ zs.toArray[i]! = x
        · exact ih h
        · refine ⟨j, hl, he, fun i hi hix => h ⟨i, ?_, by omega, hix⟩⟩
          omega
    obtain ⟨j, hj, hjx⟩ := List.getElem_of_mem hx
    obtain ⟨j, hl, he, hmin⟩ := key (j + 1) ⟨j, by omega, hj, by rw [getElem!_pos zs.toArray j (by simpa using hj)]; simpa using hjx⟩
    refine ⟨j, List.mem_filter.2 ⟨List.mem_range.2 hl, ?_⟩, he⟩
    by_cases h0 : j = 0
    · subst h0; exact Lib.keeps_lt_one _ 0 (by omega)
    · exact Lib.keeps_pos (by rw [he]; exact Ne.symm (hmin (j - 1) (by omega)))

theorem compact_rising {zs : List Int} (h : zs.Pairwise (· ≤ ·)) : (Lib.compact zs).Pairwise (· < ·) := by
  unfold Lib.compact Lib.compactUpTo
  rw [List.pairwise_map]
  have hr : ((List.range zs.length).filter (Lib.keeps zs.toArray)).Pairwise (· < ·) := List.pairwise_lt_range.filter _
  refine hr.imp_of_mem ?_
  intro i j hi hj hij
  have hjl : j < zs.length := List.mem_range.1 (List.mem_filter.1 hj).1
  have hk := (List.mem_filter.1 hj).2
  have h1 := sorted_get h (i := i) (j := j - 1) (by omega) (by omega)
  have h2 := sorted_get h (i := j - 1) (j := j) (by omega) hjl
  have hne : zs.toArray[j]! ≠ zs.toArray[j - 1]! := by
    intro e
    rw [Lib.keeps_neg (by omega) e] at hk
    cases hk
  omega

/-- What slices.Sort and slices.Compact make of a list of squares. -/
theorem sort_compact (l : List Int) (P : Nat → Bool) (hr : ∀ x ∈ l, 0 ≤ x ∧ x < 90) (h : ∀ t : Nat, t < 90 → ((t : Int) ∈ l ↔ P t = true)) :
    Lib.compact (l.mergeSort fun x y => decide (x ≤ y)) = ((List.range 90).filter P).map (fun n : Nat => (n : Int)) := by
  apply rising_eq
  · apply compact_rising
    have := List.pairwise_mergeSort (le := fun x y : Int => decide (x ≤ y)) (by intro a b c; simp; omega) (by intro a b; simp; omega) l
    exact this.imp (by intro a b; simp)
  · rw [List.pairwise_map]
    exact (List.pairwise_lt_range.filter _).imp (by intro a b hab; omega)
  · intro x
    rw [compact_mem, List.mem_mergeSort, List.mem_map]
    constructor
    · intro hx
      obtain ⟨h0, h1⟩ := hr x hx
      refine ⟨x.toNat, List.mem_filter.2 ⟨List.mem_range.2 (by omega), (h x.toNat (by omega)).1 ?_⟩, by omega⟩
      rw [show ((x.toNat : Nat) : Int) = x from by omega]; exact hx
    · rintro ⟨t, ht, rfl⟩
      obtain ⟨h1, h2⟩ := List.mem_filter.1 ht
      exact (h t (List.mem_range.1 h1)).2 h2

/-! ### what is met first, second -/
section
variable (e : Nat → Bool)
theorem mem_free : ∀ (R : List Nat) (t : Nat), t ∈ R.takeWhile e ↔ ∃ j, R[j]? = some t ∧ (R.take j).countP (fun x => !e x) = 0 ∧ e t = true
  | [], t => by simp
  | x :: R, t => by
    rw [List.takeWhile_cons]
    cases hx : e x with
    | true =>
      rw [if_pos rfl, List.mem_cons, mem_free R t]
      constructor
      · rintro (rfl | ⟨j, h1, h2, h3⟩)
        · exact ⟨0, by simp, by simp, hx⟩
        · exact ⟨j + 1, by simpa using h1, by simpa [hx] using h2, h3⟩
      · rintro ⟨j, h1, h2, h3⟩
        cases j with
        | zero => left; simpa using h1.symm
        | succ j => right; exact ⟨j, by simpa using h1, by simpa [hx] using h2, h3⟩
    | false =>
      rw [if_neg (by simp)]
      constructor
      · intro h; cases h
      · rintro ⟨j, h1, h2, h3⟩
        cases j with
        | zero => simp at h1; subst h1; rw [hx] at h3; cases h3
        | succ j => simp [hx] at h2
theorem mem_first : ∀ (R : List Nat) (t : Nat), (R.dropWhile e).head? = some t ↔ ∃ j, R[j]? = some t ∧ (R.take j).countP (fun x => !e x) = 0 ∧ e t = false
  | [], t => by simp
  | x :: R, t => by
    rw [List.dropWhile_cons]
    cases hx : e x with
    | true =>
      rw [if_pos rfl, mem_first R t]
      constructor
      · rintro ⟨j, h1, h2, h3⟩
        exact ⟨j + 1, by simpa using h1, by simpa [hx] using h2, h3⟩
      · rintro ⟨j, h1, h2, h3⟩
        cases j with
        | zero => simp at h1; subst h1; rw [hx] at h3; cases h3
        | succ j => exact ⟨j, by simpa using h1, by simpa [hx] using h2, h3⟩
    | false =>
      rw [if_neg (by simp)]
      constructor
      · intro h
        simp at h
        subst h
        exact ⟨0, by simp, by simp, hx⟩
      · rintro ⟨j, h1, h2, h3⟩
        cases j with
        | zero => simpa using h1
        | succ j => simp [hx] at h2
theorem mem_second : ∀ (R : List Nat) (t : Nat), ((R.dropWhile e).tail.dropWhile e).head? = some t ↔ ∃ j, R[j]? = some t ∧ (R.take j).countP (fun x => !e x) = 1 ∧ e t = false
  | [], t => by simp
  | x :: R, t => by
    rw [List.dropWhile_cons]
    cases hx : e x with
    | true =>
      rw [if_pos rfl, mem_second R t]
      constructor
      · rintro ⟨j, h1, h2, h3⟩
        exact ⟨j + 1, by simpa using h1, by simpa [hx] using h2, h3⟩
      · rintro ⟨j, h1, h2, h3⟩
        cases j with
        | zero => simp at h2
        | succ j => exact ⟨j, by simpa using h1, by simpa [hx] using h2, h3⟩
    | false =>
      rw [if_neg (by simp), List.tail_cons, mem_first]
      constructor
      · rintro ⟨j, h1, h2, h3⟩
        exact ⟨j + 1, by simpa using h1, by simp [hx, h2], h3⟩
      · rintro ⟨j, h1, h2, h3⟩
        cases j with
        | zero => simp at h2
        | succ j => exact ⟨j, by simpa using h1, by simpa [hx] using h2, h3⟩
end

/-- The square so many files and ranks on; -1: there is none. -/
def stepN (n : Nat) (df dr : Int) : Int :=
  if 0 ≤ ((n % 9 : Nat) : Int) + df ∧ ((n % 9 : Nat) : Int) + df < 9 ∧ 0 ≤ ((n / 9 : Nat) : Int) + dr ∧ ((n / 9 : Nat) : Int) + dr < 10 then 9 * (((n / 9 : Nat) : Int) + dr) + (((n % 9 : Nat) : Int) + df) else -1
def dirs : List (Int × Int) := [(1, 0), (-1, 0), (0, 1), (0, -1)]
/-- The squares of a way, from the next one on. -/
def rayN (n : Nat) : Int × Int → List Nat := fun w => (((List.range 9).map (fun i : Nat => stepN n (((i : Nat) : Int) * w.1 + w.1) (((i : Nat) : Int) * w.2 + w.2))).takeWhile (fun x => decide (0 ≤ x))).map Int.toNat
end Go.Proofs.YtcanbidenhcohaaGreat.Sp
