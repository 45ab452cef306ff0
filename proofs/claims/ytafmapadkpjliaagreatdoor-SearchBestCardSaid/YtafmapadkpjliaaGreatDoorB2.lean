/- Walks and plain laws that several statements lean on, joined: no statement of the seat is proved here. -/
import Derived.Deep.LoopGhost
import Derived.Deep.RegionHeld3
import Derived.Lib.SlBytesConst
import Derived.Deep.Cut
import Derived.Shelf.Spec.TrailingZeros
import Derived.Test.YtafmapadkpjliaaGreatDoorRows
import Derived.Lib.LaidTab
import Derived.MakeChecks
import Derived.Lay
import Derived.Shelf.SlIterI.Collect
import Derived.RangeFuncNested
import Derived.RangeFuncBound
import Derived.RangeFuncCalls
import Derived.RangeFuncLeaves
import Derived.Shelf.Abstract
import Derived.Shelf.RegionOpen
import Derived.WalkKit
import Derived.OwnWalkIn
import Derived.TacticsInMore
import Derived.LoopNIn
import Derived.LoopIn
import Derived.Maps.OwnIn
import Derived.Lib.SlicesCompact
import Derived.Test.YtafmapadkpjliaaGreatDoorB1

/- Walks: the reference of reach. -/
namespace Go.Proofs.YtafmapadkpjliaaGreatDoor.K
open Go.RowKit Go.Lib Go.Proofs.YtafmapadkpjliaaGreatDoorW.PrintWords Go.Proofs.YtafmapadkpjliaaGreatDoor.Sp
set_option linter.unusedVariables false
set_option linter.unusedSimpArgs false
attribute [local go_sem] cel_get   -- for this text's walks alone
theorem beq46 (x : Nat) : ((x : Int) == 46) = (x == 46) := by rw [Bool.eq_iff_iff, beq_iff_eq, beq_iff_eq]; omega
theorem bne46 (x : Nat) : ((x : Int) != 46) = (x != 46) := by rw [bne, beq46, bne]
theorem rhalf_c (s : ByteArray) (p q a st : Nat) (hp : p < 90) (hq : q < 90) (h1 : q > p → a + st < s.size) (h2 : ¬ q > p → st ≤ a ∧ a < s.size) (ha : a < 90) (hst : st < 10) (w : World) :
    Calls Tryz.prog 153 #[.int .i64 (p : Int), .int .i64 (q : Int), .int .i64 (a : Int), .string s, .int .i64 (st : Int)] w fun e w' => e = .returned (.bool (cel s (if q > p then a + st else a - st) == 46)) ∧ w' = w := by
  by_cases h : q > p
  · have k0 : decide (p < q) = true := decide_eq_true (by omega)
    have k1 : 0 ≤ (a : Int) + (st : Int) := by omega
    have k2 : (a : Int) + (st : Int) < (s.size : Int) := by have := h1 h; omega
    have k3 : (a : Int) + (st : Int) ≤ 100 := by omega
    have k4 : ((a : Int) + (st : Int)).toNat = a + st := by omega
    rw [if_pos h]
    clear h h1 h2 hp hq ha hst
    go_enter Tryz.func153, Tryz.ntmps153
    go_wp2_with fail
    go_ret
    exact ⟨ret_bool (beq46 _), rfl⟩
  · have k0 : decide (p < q) = false := decide_eq_false (by omega)
    have k1 : 0 ≤ (a : Int) - (st : Int) := by have := h2 h; omega
    have k5 : (st : Int) ≤ (a : Int) := by have := h2 h; omega
    have k2 : (a : Int) - (st : Int) < (s.size : Int) := by have := h2 h; omega
    have k3 : (a : Int) - (st : Int) ≤ 100 := by omega
    have k4 : ((a : Int) - (st : Int)).toNat = a - st := by omega
    rw [if_neg h]
    clear h h1 h2 hp hq ha hst
    go_enter Tryz.func153, Tryz.ntmps153
    go_wp2_with fail
    go_ret
    exact ⟨ret_bool (beq46 _), rfl⟩
set_option maxRecDepth 100000 in
theorem rhorse_c (s : ByteArray) (hs : s.size = 90) (a b : Nat) (ha : a < 90) (hb : b < 90) (w : World) : Calls Tryz.prog 120 #[.string s, .int .i64 (a : Int), .int .i64 (b : Int)] w fun e w' => e = .returned (.bool (horseN (cel s) a b)) ∧ w' = w := by
  have HF := away_c (a % 9) (b % 9) (by omega) (by omega) w
  have HR := away_c (a / 9) (b / 9) (by omega) (by omega) w
  rw [show ((a % 9 : Nat) : Int) = (a : Int) % 9 by omega, show ((b % 9 : Nat) : Int) = (b : Int) % 9 by omega] at HF
  rw [show ((a / 9 : Nat) : Int) = (a : Int) / 9 by omega, show ((b / 9 : Nat) : Int) = (b : Int) / 9 by omega] at HR
  have HF := Aside0.mk HF
  have HR := Aside0.mk HR
  have a0 : 0 ≤ (a : Int) := by omega
  have a1 : (a : Int) < 90 := by omega
  have b0 : 0 ≤ (b : Int) := by omega
  have b1 : (b : Int) < 90 := by omega
  by_cases h1 : away (a % 9) (b % 9) = 1 ∧ away (a / 9) (b / 9) = 2
  · have hr2 := h1.2
    have HH := rhalf_c s (a / 9) (b / 9) a 9 (by omega) (by omega) (by intro h; rw [hs]; unfold away at hr2; split at hr2 <;> omega) (by intro h; rw [hs]; unfold away at hr2; split at hr2 <;> omega) ha (by omega) w
    rw [show ((a / 9 : Nat) : Int) = (a : Int) / 9 by omega, show ((b / 9 : Nat) : Int) = (b : Int) / 9 by omega, show ((9 : Nat) : Int) = 9 from rfl] at HH
    rw [show horseN (cel s) a b = (cel s (if b / 9 > a / 9 then a + 9 else a - 9) == 46) by unfold horseN legN; rw [h1.1, h1.2]; simp]
    have HH := Aside0.mk HH
    rw [h1.1] at HF; rw [h1.2] at HR
    clear h1 hr2 hs ha hb
    generalize (if b / 9 > a / 9 then a + 9 else a - 9) = z at HH ⊢
    go_enter Tryz.func120, Tryz.ntmps120
    go_wp2_with (first | (go_at_call 119; (with_reducible refine HF.out.mono ?_); rintro e w' ⟨rfl, rfl⟩) | (go_at_call 119; (with_reducible refine HR.out.mono ?_); rintro e w' ⟨rfl, rfl⟩) | (go_at_call 153; (with_reducible refine HH.out.mono ?_); rintro e w' ⟨rfl, rfl⟩))
    go_ret
    exact ⟨rfl, rfl⟩
  by_cases h1' : away (a % 9) (b % 9) = 2 ∧ away (a / 9) (b / 9) = 1
  · have h1 := h1'
    have hr2 := h1.1
    clear h1'
    have HH := rhalf_c s (a % 9) (b % 9) a 1 (by omega) (by omega) (by intro h; rw [hs]; unfold away at hr2; split at hr2 <;> omega) (by intro h; rw [hs]; unfold away at hr2; split at hr2 <;> omega) ha (by omega) w
    rw [show ((a % 9 : Nat) : Int) = (a : Int) % 9 by omega, show ((b % 9 : Nat) : Int) = (b : Int) % 9 by omega, show ((1 : Nat) : Int) = 1 from rfl] at HH
    rw [show horseN (cel s) a b = (cel s (if b % 9 > a % 9 then a + 1 else a - 1) == 46) by unfold horseN legN; rw [h1.1, h1.2]; simp]
    have HH := Aside0.mk HH
    rw [h1.1] at HF; rw [h1.2] at HR
    clear h1 hr2 hs ha hb
    generalize (if b % 9 > a % 9 then a + 1 else a - 1) = z at HH ⊢
    go_enter Tryz.func120, Tryz.ntmps120
    go_wp2_with (first | (go_at_call 119; (with_reducible refine HF.out.mono ?_); rintro e w' ⟨rfl, rfl⟩) | (go_at_call 119; (with_reducible refine HR.out.mono ?_); rintro e w' ⟨rfl, rfl⟩) | (go_at_call 153; (with_reducible refine HH.out.mono ?_); rintro e w' ⟨rfl, rfl⟩))
    go_ret
    exact ⟨rfl, rfl⟩
  · rw [show horseN (cel s) a b = false by unfold horseN; simp only [Bool.and_eq_false_iff, Bool.or_eq_false_iff, beq_eq_false_iff_ne]; left; omega]
    have HH := HF
    generalize away (a % 9) (b % 9) = f at *
    generalize away (a / 9) (b / 9) = r at *
    have q1 : ((f : Int) == 1) = decide (f = 1) := by rw [Bool.eq_iff_iff]; simp; omega
    have q2 : ((f : Int) == 2) = decide (f = 2) := by rw [Bool.eq_iff_iff]; simp; omega
    have q3 : ((r : Int) == 1) = decide (r = 1) := by rw [Bool.eq_iff_iff]; simp; omega
    have q4 : ((r : Int) == 2) = decide (r = 2) := by rw [Bool.eq_iff_iff]; simp; omega
    clear hs ha hb
    go_enter Tryz.func120, Tryz.ntmps120
    go_wp2_with (first | (go_at_call 119; (with_reducible refine HF.out.mono ?_); rintro e w' ⟨rfl, rfl⟩) | (go_at_call 119; (with_reducible refine HR.out.mono ?_); rintro e w' ⟨rfl, rfl⟩) | (go_at_call 153; (with_reducible refine HH.out.mono ?_); rintro e w' ⟨rfl, rfl⟩))
    all_goals first | (exfalso; simp_all; done) | (exfalso; omega) | (go_ret; exact ⟨rfl, rfl⟩)
set_option maxRecDepth 100000 in
theorem rpawn_c (side : Int) (hs : side = 0 ∨ side = 1) (a b : Nat) (ha : a < 90) (hb : b < 90) (w : World) : Calls Tryz.prog 122 #[.int .i64 side, .int .i64 (a : Int), .int .i64 (b : Int)] w fun e w' => e = .returned (.bool (pawnN side a b)) ∧ w' = w := by
  have HO := Aside0.mk (rover_c a ha side hs w)
  have HA := Aside0.mk (away_c a b ha hb w)
  have a0 : 0 ≤ (a : Int) := by omega
  have a1 : (a : Int) < 90 := by omega
  have b0 : 0 ≤ (b : Int) := by omega
  have b1 : (b : Int) < 90 := by omega
  have hz : away a b < 90 := by unfold away; split <;> omega
  have hp : pawnN side a b = ((if side = 1 then b + 9 == a else b == a + 9) || (overN a side && a / 9 == b / 9 && away a b == 1)) := rfl
  have HP := Aside0.mk hp
  clear hp
  generalize overN a side = o at *
  generalize hd : away a b = d at *
  have HD := Aside0.mk hd
  clear hd ha hb
  rcases hs with rfl | rfl
  all_goals
    go_enter Tryz.func122, Tryz.ntmps122
    go_wp2_with (first | (go_at_call 154; refine HO.out.mono ?_; rintro e w' ⟨rfl, rfl⟩) | (go_at_call 119; refine HA.out.mono ?_; rintro e w' ⟨rfl, rfl⟩))
  all_goals
    go_ret
    refine ⟨ret_bool ?_, rfl⟩
    have h := HP.out
    clear HP HO HA HD
    rw [h, Bool.eq_iff_iff]
    simp only [beq_iff_eq, Bool.or_eq_true, Bool.and_eq_true, beq_eq_false_iff_ne, ne_eq, if_true, show ((0 : Int) = 1) = False by simp, if_false, bne_iff_ne, decide_eq_true_eq, Bool.true_eq_false, Bool.false_eq_true] at *
    try omega
    try (simp_all; omega)
set_option maxRecDepth 100000 in
set_option maxHeartbeats 1000000 in
theorem rcan_c (s : ByteArray) (hs : isBoard s = true) (a b : Nat) (ha : a < 90) (hb : b < 90) (h0 : 0 ≤ sideN (cel s a)) (w : World) : Calls Tryz.prog 83 #[.string s, .int .i64 (a : Int), .int .i64 (b : Int)] w fun e w' => e = .returned (.bool (canN (cel s) a b)) ∧ w' = w := by
  have hsz := board_size hs
  have HF := away_c (a % 9) (b % 9) (by omega) (by omega) w
  have HR := away_c (a / 9) (b / 9) (by omega) (by omega) w
  rw [show ((a % 9 : Nat) : Int) = (a : Int) % 9 by omega, show ((b % 9 : Nat) : Int) = (b : Int) % 9 by omega] at HF
  rw [show ((a / 9 : Nat) : Int) = (a : Int) / 9 by omega, show ((b / 9 : Nat) : Int) = (b : Int) / 9 by omega] at HR
  have HF := Aside0.mk HF
  have HR := Aside0.mk HR
  have HK := Aside0.mk (rkind_c (cel s a) (cel_lt s a) w)
  have HS := Aside0.mk (rside_c (cel s a) (cel_lt s a) w)
  have HM := Aside0.mk (rmay_c (cel s a) h0 b hb w)
  have HH := Aside0.mk (rhorse_c s hsz a b ha hb w)
  have HB := Aside0.mk (rbetween_c s hsz a b ha hb w)
  have HP := Aside0.mk (rpawn_c (sideN (cel s a)) (side01 h0) a b ha hb w)
  have a0 : 0 ≤ (a : Int) := by omega
  have a1 : (a : Int) < 90 := by omega
  have b0 : 0 ≤ (b : Int) := by omega
  have b1 : (b : Int) < 90 := by omega
  have z0 : (a : Int) < (s.size : Int) := by omega
  have z1 : (b : Int) < (s.size : Int) := by omega
  have z2 : ((a : Int) + (b : Int)) / 2 < (s.size : Int) := by omega
  have z3 : 0 ≤ ((a : Int) + (b : Int)) / 2 := by omega
  have z4 : (((a : Int) + (b : Int)) / 2).toNat = (a + b) / 2 := by omega
  have w1 : away (a % 9) (b % 9) < 10 := by unfold away; split <;> omega
  have w2 : away (a / 9) (b / 9) < 10 := by unfold away; split <;> omega
  have hk := kinds h0
  unfold canN
  generalize away (a % 9) (b % 9) = f at *
  generalize away (a / 9) (b / 9) = r at *
  generalize mayN (cel s a) b = m at *
  generalize horseN (cel s) a b = hh at *
  generalize betwN (cel s) a b = bt at *
  generalize pawnN (sideN (cel s a)) a b = pp at *
  generalize sideN (cel s a) = sd at *
  generalize hcb : cel s b = y at *
  generalize hcm : cel s ((a + b) / 2) = v at *
  have f1 : (f : Int) < 10 := by omega
  have r1 : (r : Int) < 10 := by omega
  have f0 : 0 ≤ (f : Int) := by omega
  have r0 : 0 ≤ (r : Int) := by omega
  clear hs ha hb h0 hsz w1 w2
  rcases hk with hk | hk | hk | hk | hk | hk | hk
  all_goals
    rw [hk] at HK
    simp only [hk, if_true, if_false, reduceCtorEq, Nat.reduceEqDiff]
    clear hk
    go_enter Tryz.func83, Tryz.ntmps83
    go_wp2_with (first | (go_at_call 119; (with_reducible refine HF.out.mono ?_); rintro e w' ⟨rfl, rfl⟩) | (go_at_call 119; (with_reducible refine HR.out.mono ?_); rintro e w' ⟨rfl, rfl⟩) | (go_at_call 48; refine HK.out.mono ?_; rintro e w' ⟨rfl, rfl⟩) | (go_at_call 46; refine HS.out.mono ?_; rintro e w' ⟨rfl, rfl⟩) | (go_at_call 59; refine HM.out.mono ?_; rintro e w' ⟨rfl, rfl⟩) | (go_at_call 120; refine HH.out.mono ?_; rintro e w' ⟨rfl, rfl⟩) | (go_at_call 121; refine HB.out.mono ?_; rintro e w' ⟨rfl, rfl⟩) | (go_at_call 122; refine HP.out.mono ?_; rintro e w' ⟨rfl, rfl⟩))
  all_goals
    go_ret
    first
    | exact ⟨rfl, rfl⟩
    | (refine ⟨ret_bool ?_, rfl⟩
       clear HF HR HK HS HM HH HB HP
       rw [Bool.eq_iff_iff]; simp_all
       try omega)
/-- What the reference's Fast tells of a board and squares. -/
theorem rfast_c (s : ByteArray) (hs : isBoard s = true) (a b : Nat) (ha : a < 90) (hb : b < 90) (w : World) : Calls Tryz.prog 47 #[.string s, .int .i64 (a : Int), .int .i64 (b : Int)] w fun e w' => e = .returned (.bool (fastN (cel s) a b)) ∧ w' = w := by
  have hsz := board_size hs
  have HSA := Aside0.mk (rside_c (cel s a) (cel_lt s a) w)
  have HSB := Aside0.mk (rside_c (cel s b) (cel_lt s b) w)
  have a0 : 0 ≤ (a : Int) := by omega
  have b0 : 0 ≤ (b : Int) := by omega
  have z0 : (a : Int) < (s.size : Int) := by omega
  have z1 : (b : Int) < (s.size : Int) := by omega
  by_cases h0 : 0 ≤ sideN (cel s a)
  · have HC := Aside0.mk (rcan_c s hs a b ha hb h0 w)
    have s0 : decide (sideN (cel s a) < 0) = false := decide_eq_false (by omega)
    unfold fastN
    rw [decide_eq_true h0, Bool.true_and]
    generalize canN (cel s) a b = cc at *
    generalize sideN (cel s a) = p at *
    generalize sideN (cel s b) = q at *
    clear hs hsz ha hb h0
    cases hqp : (q == p)
    all_goals
      rw [bne, hqp]
      go_enter Tryz.func47, Tryz.ntmps47
      go_wp2_with (first | (go_at_call 46; (with_reducible refine HSA.out.mono ?_); rintro e w' ⟨rfl, rfl⟩) | (go_at_call 46; (with_reducible refine HSB.out.mono ?_); rintro e w' ⟨rfl, rfl⟩) | (go_at_call 83; refine HC.out.mono ?_; rintro e w' ⟨rfl, rfl⟩))
      go_ret
      exact ⟨rfl, rfl⟩
  · have s0 : decide (sideN (cel s a) < 0) = true := decide_eq_true (by omega)
    unfold fastN
    rw [decide_eq_false h0, Bool.false_and, Bool.false_and]
    generalize sideN (cel s a) = p at *
    clear hs hsz ha hb h0 HSB
    go_enter Tryz.func47, Tryz.ntmps47
    go_wp2_with (first | (go_at_call 46; (with_reducible refine HSA.out.mono ?_); rintro e w' ⟨rfl, rfl⟩))
    go_ret
    exact ⟨rfl, rfl⟩
end Go.Proofs.YtafmapadkpjliaaGreatDoor.K

/- Walks: place.Check. -/
namespace Go.Proofs.YtafmapadkpjliaaGreatDoor.K
open Go.RowKit Go.Lib Go.Proofs.YtafmapadkpjliaaGreatDoorW.PrintWords Go.Proofs.YtafmapadkpjliaaGreatDoor.Sp
set_option linter.unusedVariables false
set_option linter.unusedSimpArgs false
attribute [local go_sem] cel_get   -- for this text's walks alone
/-- A position. -/
structure Pos where
  cells : ByteArray
  side : Int
  clock : Int
  full : Int
abbrev posV (p : Pos) : Value := .agg #[.string p.cells, .int .i64 p.side, .int .i64 p.clock, .int .i64 p.full]
/-- How many squares of the first n hold x. -/
def cntX (s : ByteArray) (n x : Nat) : Nat := (List.range n).countP (fun i => cel s i == x)
theorem cntX_succ (s : ByteArray) (n x : Nat) : cntX s (n + 1) x = cntX s n x + (if cel s n = x then 1 else 0) := by
  unfold cntX
  rw [List.range_succ, List.countP_append]
  simp [List.countP_cons]
theorem cntX_le (s : ByteArray) (n x : Nat) : cntX s n x ≤ n := by
  unfold cntX
  exact Nat.le_trans List.countP_le_length (by simp)
/-- The first n squares are such that their pieces may stand there. -/
def rightX (s : ByteArray) (n : Nat) : Bool := (List.range n).all (fun i => cel s i == 46 || mayN (cel s i) i)
theorem rightX_succ (s : ByteArray) (n : Nat) : rightX s (n + 1) = (rightX s n && (cel s n == 46 || mayN (cel s n) n)) := by
  unfold rightX; rw [List.range_succ, List.all_append]; simp
def pieces14 : List Nat := [75, 65, 66, 78, 82, 67, 80, 107, 97, 98, 110, 114, 99, 112]
/-- There are too many of a piece, or no general. -/
def badX (s : ByteArray) (x : Nat) : Bool := decide (mostN x < cntX s 90 x) || (kindN x == 75 && cntX s 90 x != 1)
def argOk (p : Pos) : Bool := isBoard p.cells && decide ((p.side = 0 ∨ p.side = 1) ∧ 0 ≤ p.clock ∧ p.clock ≤ 120 ∧ 1 ≤ p.full ∧ p.full ≤ 9999)
/-- What is wrong with a position, but for checks. -/
def checkP (p : Pos) : Int :=
  if argOk p = false then 1 else if pieces14.any (badX p.cells) = true then 3 else if rightX p.cells 90 = false then 2 else 0
theorem argOk_no {p : Pos} (h : argOk p = false) : isBoard p.cells = false ∨ ¬ (p.side = 0 ∨ p.side = 1) ∨ p.clock < 0 ∨ 120 < p.clock ∨ p.full < 1 ∨ 9999 < p.full := by
  unfold argOk at h
  cases hb : isBoard p.cells
  · exact .inl rfl
  · rw [hb] at h
    simp only [Bool.true_and, decide_eq_false_iff_not] at h
    omega
theorem argOk_yes {p : Pos} (h : argOk p = true) : isBoard p.cells = true ∧ (p.side = 0 ∨ p.side = 1) ∧ 0 ≤ p.clock ∧ p.clock ≤ 120 ∧ 1 ≤ p.full ∧ p.full ≤ 9999 := by
  unfold argOk at h
  simp only [Bool.and_eq_true, decide_eq_true_eq] at h
  exact ⟨h.1, h.2.1, h.2.2.1, h.2.2.2.1, h.2.2.2.2.1, h.2.2.2.2.2⟩
theorem zero256 : Tryz.zeroCells122 = Array.replicate 256 (.int .i64 0) := by kernel_rfl
/-- What Check's first loop keeps: the position's box, the counts. -/
structure ChkAt (w0 W : World) (s : ByteArray) (bx b n : Nat) : Prop where
  box : W.cell? ⟨bx, 0, none⟩ = some (.string s)
  cnt : ∀ x, x < 256 → W.cell? ⟨b, x, none⟩ = some (.int .i64 (cntX s n x : Int))
  fz : ∀ x, W.frozen? ⟨b, x, none⟩ = false
  bel : Below w0.heap.size w0 W
  lt : bx < b ∧ b < W.heap.size ∧ w0.heap.size ≤ bx
theorem ChkAt.below {w0 W W' : World} {s : ByteArray} {bx b n : Nat} (h : ChkAt w0 W s bx b n) (hb : Below W.heap.size W W') : ChkAt w0 W' s bx b n :=
  ⟨(hb.cell (p := ⟨bx, 0, none⟩) (by have := h.lt; show bx < _; omega)).trans h.box, fun x hx => (hb.cell (p := ⟨b, x, none⟩) h.lt.2.1).trans (h.cnt x hx), fun x => (hb.frozen (p := ⟨b, x, none⟩) h.lt.2.1).trans (h.fz x), h.bel.trans (hb.mono h.bel.size), ⟨h.lt.1, Nat.lt_of_lt_of_le h.lt.2.1 hb.size, h.lt.2.2⟩⟩
theorem ChkAt.count {w0 W : World} {s : ByteArray} {bx b n : Nat} (h : ChkAt w0 W s bx b n) : ChkAt w0 (W.setCell ⟨b, cel s n, none⟩ (.int .i64 ((cntX s n (cel s n) : Int) + 1))) s bx b (n + 1) := by
  have hlt := h.lt
  refine ⟨(World.cell?_setCell_other _ _ _ _ (by intro e; injection e with e1; omega)).trans h.box, ?_, fun x => by rw [World.frozen?_setCell]; exact h.fz x, h.bel.setCell (by show w0.heap.size ≤ b; omega) _, ⟨hlt.1, by simp [World.setCell]; exact hlt.2.1, hlt.2.2⟩⟩
  intro x hx
  rw [cntX_succ]
  by_cases hc : cel s n = x
  · subst hc
    rw [if_pos rfl, World.cell?_setCell_same' _ _ _ (by rw [h.cnt _ hx]; rfl)]
    rfl
  · rw [if_neg hc, World.cell?_setCell_other _ _ _ _ (by intro e; injection e with _ e2; exact hc e2)]
    exact h.cnt x hx
theorem ChkAt.start {w0 w1 : World} {s : ByteArray} {bx : Nat} (h : w1.cell? ⟨bx, 0, none⟩ = some (.string s)) (hb : Below w0.heap.size w0 w1) (hz : bx < w1.heap.size) (hz0 : w0.heap.size ≤ bx) :
    ChkAt w0 (w1.alloc (.cells Tryz.zeroCells122 122)) s bx w1.heap.size 0 := by
  rw [zero256]
  refine ⟨?_, ?_, fun x => by simp, below_alloc hb _, hz, by simp, hz0⟩
  · rw [World.cell?_alloc_past _ _ _ hz]; exact h
  · intro x hx
    simp [hx, cntX]
theorem piece14 : ∀ i, i < 14 → (#[Value.int .u8 75, .int .u8 65, .int .u8 66, .int .u8 78, .int .u8 82, .int .u8 67, .int .u8 80, .int .u8 107, .int .u8 97, .int .u8 98, .int .u8 110, .int .u8 114, .int .u8 99, .int .u8 112] : Array Value)[i]? = some (.int .u8 (pieces14.getD i 0 : Int)) := by
  intro i hi
  match i, hi with
  | 0, _ | 1, _ | 2, _ | 3, _ | 4, _ | 5, _ | 6, _ | 7, _ | 8, _ | 9, _ | 10, _ | 11, _ | 12, _ | 13, _ => rfl
theorem may_square {s : ByteArray} (hs : isBoard s = true) {n : Nat} (hn : n < 90) (h : cel s n ≠ 46) : mayS (cel s n) (n : Int) = mayN (cel s n) n := by
  have h2 : ∀ x ∈ letters, x ≠ 46 → 0 ≤ sideN x := by decide
  unfold mayS
  rw [decide_eq_true ⟨h2 _ (board_cell hs hn) h, by omega, by omega⟩, Bool.true_and]
  rfl
theorem piece_lt : ∀ i, i < 14 → pieces14.getD i 0 < 256 := by decide
theorem kindN_q (x : Nat) : ((kindN x : Int) == 75) = (kindN x == 75) := by rw [Bool.eq_iff_iff, beq_iff_eq, beq_iff_eq]; omega
theorem any14 (s : ByteArray) (i : Nat) (hi : i < 14) (h : badX s (pieces14.getD i 0) = true) : pieces14.any (badX s) = true := by
  rw [List.any_eq_true]
  refine ⟨_, ?_, h⟩
  rw [List.getD_eq_getElem?_getD, List.getElem?_eq_getElem (show i < pieces14.length from hi)]
  exact List.getElem_mem _
theorem none14 (s : ByteArray) (h : ∀ j, j < 14 → badX s (pieces14.getD j 0) = false) : pieces14.any (badX s) = false := by
  rw [List.any_eq_false]
  intro x hx
  obtain ⟨j, hj, rfl⟩ := List.getElem_of_mem hx
  have := h j hj
  rw [List.getD_eq_getElem?_getD, List.getElem?_eq_getElem hj] at this
  simpa using this
set_option maxRecDepth 100000 in
set_option maxHeartbeats 4000000 in
theorem check_c (p : Pos) (w : World) : Calls Tryz.prog 60 #[posV p] w fun e w' => e = .returned (.int .i64 (checkP p)) ∧ Below w.heap.size w w' := by
  have HI := Aside0.mk (fun W => is_c p.cells W)
  have hu := Tryz.underlying23
  cases ha : argOk p
  case false =>
    rw [show checkP p = 1 by unfold checkP; rw [if_pos ha]]
    have HN := Aside0.mk (argOk_no ha)
    have h1 : (p.side == 0) = decide (p.side = 0) := by rw [Bool.eq_iff_iff]; simp
    have h2 : (p.side == 1) = decide (p.side = 1) := by rw [Bool.eq_iff_iff]; simp
    clear ha
    generalize isBoard p.cells = bb at HI HN
    go_enter Tryz.func60, Tryz.ntmps60
    go_wp2_with (go_at_call 79; refine (HI.out _).mono ?_; rintro e w1 ⟨rfl, hb⟩; have HB := Aside0.mk ((below_alloc (Below.refl w.heap.size w) _).trans (hb.mono (by simp))); have c0 := (hb.cell (p := ⟨w.heap.size, 0, none⟩) (by simp)).trans (show _ = some (Value.string p.cells) by simp); have c1 := (hb.cell (p := ⟨w.heap.size, 1, none⟩) (by simp)).trans (show _ = some (Value.int .i64 p.side) by simp); have c2 := (hb.cell (p := ⟨w.heap.size, 2, none⟩) (by simp)).trans (show _ = some (Value.int .i64 p.clock) by simp); have c3 := (hb.cell (p := ⟨w.heap.size, 3, none⟩) (by simp)).trans (show _ = some (Value.int .i64 p.full) by simp); clear hb)
    all_goals
      first
      | (go_ret; exact ⟨rfl, HB.out⟩)
      | (exfalso
         have hn := HN.out
         clear HN HB HI
         simp_all
         done)
      | (exfalso
         have hn := HN.out
         clear HN HB HI
         simp_all
         omega)
  obtain ⟨hbd, hsd, hc1, hc2, hf1, hf2⟩ := argOk_yes ha
  rw [hbd] at HI
  have HP := Aside0.mk (show checkP p = if pieces14.any (badX p.cells) = true then 3 else if rightX p.cells 90 = false then 2 else 0 by unfold checkP; rw [ha]; rfl)
  have HSZ := Aside0.mk (board_size hbd)
  have HBD := Aside0.mk hbd
  clear ha hbd
  have HSD := Aside0.mk hsd
  rcases hsd with hsd | hsd
  case' inl =>
    have hs0 : (p.side != 0) = false := by simp [hsd]
    have hs1 : (p.side != 1) = true := by simp [hsd]
  case' inr =>
    have hs0 : (p.side != 0) = true := by simp [hsd]
    have hs1 : (p.side != 1) = false := by simp [hsd]
  all_goals clear hsd
  all_goals
    go_enter Tryz.func60, Tryz.ntmps60
    go_wp2_with fail
    refine (HI.out _).mono ?_
    rintro e w1 ⟨rfl, hb⟩
    have HB := Aside0.mk ((below_alloc (Below.refl w.heap.size w) _).trans (hb.mono (by simp)))
    have c0 := (hb.cell (p := ⟨w.heap.size, 0, none⟩) (by simp)).trans (show _ = some (Value.string p.cells) by simp)
    have c1 := (hb.cell (p := ⟨w.heap.size, 1, none⟩) (by simp)).trans (show _ = some (Value.int .i64 p.side) by simp)
    have c2 := (hb.cell (p := ⟨w.heap.size, 2, none⟩) (by simp)).trans (show _ = some (Value.int .i64 p.clock) by simp)
    have c3 := (hb.cell (p := ⟨w.heap.size, 3, none⟩) (by simp)).trans (show _ = some (Value.int .i64 p.full) by simp)
    have hz : w.heap.size < w1.heap.size := by have := hb.size; simp at this; omega
    have HC0 := Aside0.mk (ChkAt.start c0 HB.out hz (Nat.le_refl _))
    clear hb
    go_wp2_with fail
    generalize hW : w1.alloc (.cells Tryz.zeroCells122 122) = W0 at HC0 ⊢
    generalize hB : w1.heap.size = b at HC0 ⊢
    clear hW hB c0 c1 c2 c3 hz HB hs0 hs1 hc1 hc2 hf1 hf2
    go_loopg [4, 43] 90 (fun gg s4 s43 wr => ∃ i : Nat, s43 = .int .i64 i ∧ i + gg = 90 ∧ s4 = .bool (rightX p.cells i) ∧ Aside0 (ChkAt w wr p.cells w.heap.size b i))
    case atStart => exact ⟨0, rfl, by omega, rfl, HC0⟩
    case round =>
      obtain ⟨i, rfl, hig, rfl, HC⟩ := hrel
      have HG := Aside0.mk hig
      by_cases hlt : i < 90
      · have k0 : 0 ≤ (i : Int) := by omega
        have k1 : (i : Int) < 90 := by omega
        have k2 : (i : Int) < (p.cells.size : Int) := by have := HSZ.out; omega
        have hcx := cntX_le p.cells i (cel p.cells i)
        have hnx := HC.out.count
        have hm := may_square HBD.out hlt
        have hr := rightX_succ p.cells i
        have hcl := cel_lt p.cells i
        have HMC := Aside0.mk (fun W => may_c (cel p.cells i) hcl (i : Int) W)
        have hcell := HC.out.cnt (cel p.cells i) hcl
        have hfr := HC.out.fz (cel p.cells i)
        have hbox := HC.out.box
        generalize hx : cel p.cells i = x at *
        generalize hrr : rightX p.cells i = rr at *
        have c0 : 0 ≤ (x : Int) := by omega
        have c1 : (x : Int) < 256 := by omega
        have c2 : (cntX p.cells i x : Int) ≤ 90 := by omega
        generalize cntX p.cells i x = cc at *
        have q := beq46 x
        have HNX := Aside0.mk hnx
        have HM := Aside0.mk hm
        have HRS := Aside0.mk hr
        have HXE := Aside0.mk hx
        have HRR := Aside0.mk hrr
        clear hnx hm hr hrr hig hcx hcl
        cases rr
        all_goals cases h46 : (x == 46)
        all_goals
          rw [h46] at q
          have H46 := Aside0.mk h46
          clear h46
          go_wp2_with fail
        all_goals
          first
          | (go_at_call 94
             refine (HMC.out _).mono ?_
             rintro e w2 ⟨rfl, hb⟩
             have HN2 := Aside0.mk (HNX.out.below hb)
             clear hb
             go_wp2_with fail
             go_roundg (90 - (i + 1))
             case measure => have := HG.out; omega
             case rel => exact ⟨i + 1, by go_num, by have := HG.out; omega, by rw [HRS.out, HM.out (by simpa using H46.out), H46.out]; rfl, HN2⟩)
          | (go_roundg (90 - (i + 1))
             case measure => have := HG.out; omega
             case rel => exact ⟨i + 1, by go_num, by have := HG.out; omega, by rw [HRS.out, H46.out]; rfl, HNX⟩)
      · have hi : i = 90 := by omega
        subst hi
        have hcv := run_convert_bytes_const (P := Tryz.prog) wr 93 5 #[.int .u8 75, .int .u8 65, .int .u8 66, .int .u8 78, .int .u8 82, .int .u8 67, .int .u8 80, .int .u8 107, .int .u8 97, .int .u8 98, .int .u8 110, .int .u8 114, .int .u8 99, .int .u8 112] 14 14 Tryz.underlying93 Tryz.underlying5
        have HC90 := Aside0.mk (HC.out.below (below_alloc (Below.refl wr.heap.size wr) (.cells #[.int .u8 75, .int .u8 65, .int .u8 66, .int .u8 78, .int .u8 82, .int .u8 67, .int .u8 80, .int .u8 107, .int .u8 97, .int .u8 98, .int .u8 110, .int .u8 114, .int .u8 99, .int .u8 112] 5 (14, 15))))
        have HLT : Aside0 (∀ i, i < 14 → (wr.alloc (.cells #[.int .u8 75, .int .u8 65, .int .u8 66, .int .u8 78, .int .u8 82, .int .u8 67, .int .u8 80, .int .u8 107, .int .u8 97, .int .u8 98, .int .u8 110, .int .u8 114, .int .u8 99, .int .u8 112] 5 (14, 15))).cell? ⟨wr.heap.size, i, none⟩ = some (.int .u8 (pieces14.getD i 0 : Int))) :=
          ⟨fun i hi => (World.cell?_alloc_mark wr _ _ _ i).trans (piece14 i hi)⟩
        generalize hrr : rightX p.cells 90 = rr at *
        have HRR := Aside0.mk hrr
        clear HC hrr hig HG
        go_wp2_with (simp only [hcv])
        clear hcv
        generalize wr.alloc (.cells #[.int .u8 75, .int .u8 65, .int .u8 66, .int .u8 78, .int .u8 82, .int .u8 67, .int .u8 80, .int .u8 107, .int .u8 97, .int .u8 98, .int .u8 110, .int .u8 114, .int .u8 99, .int .u8 112] 5 (14, 15)) = W2 at HC90 HLT ⊢
        generalize wr.heap.size = lb at HLT ⊢
        go_loopg [69] 14 (fun gg s69 W3 => ∃ i : Nat, s69 = .int .i64 i ∧ i + gg = 14 ∧ Aside0 (ChkAt w W3 p.cells w.heap.size b 90) ∧ Aside0 (∀ i, i < 14 → W3.cell? ⟨lb, i, none⟩ = some (.int .u8 (pieces14.getD i 0 : Int))) ∧ Aside0 (∀ j, j < i → badX p.cells (pieces14.getD j 0) = false))
        case atStart => exact ⟨0, rfl, by omega, HC90, HLT, ⟨fun j hj => by omega⟩⟩
        case round =>
          clear HC90 HLT
          obtain ⟨i, rfl, hig, HC90, HLT, HBX⟩ := hrel
          have HG := Aside0.mk hig
          by_cases hlt : i < 14
          · have hl := HLT.out i hlt
            have hx := piece_lt i hlt
            have k0 : 0 ≤ (i : Int) := by omega
            have k1 : (i : Int) < 14 := by omega
            have hcell := HC90.out.cnt (pieces14.getD i 0) hx
            have HMO := Aside0.mk (fun W => most_c (pieces14.getD i 0) hx W)
            have HKI := Aside0.mk (fun W => kind_c (pieces14.getD i 0) hx W)
            have hbx : badX p.cells (pieces14.getD i 0) = (decide (mostN (pieces14.getD i 0) < cntX p.cells 90 (pieces14.getD i 0)) || (kindN (pieces14.getD i 0) == 75 && cntX p.cells 90 (pieces14.getD i 0) != 1)) := rfl
            have hcle := cntX_le p.cells 90 (pieces14.getD i 0)
            have hkq := kindN_q (pieces14.getD i 0)
            have HANY := Aside0.mk (any14 p.cells i hlt)
            generalize hxx : pieces14.getD i 0 = x at *
            generalize cntX p.cells 90 x = cc at *
            generalize mostN x = m at *
            generalize kindN x = k at *
            have HBE := Aside0.mk hbx
            have c0 : 0 ≤ (x : Int) := by omega
            have c1 : (x : Int) < 256 := by omega
            have hcq : ((cc : Int) != 1) = (cc != 1) := by rw [Bool.eq_iff_iff, bne_iff_ne, bne_iff_ne]; omega
            have HXX := Aside0.mk hxx
            clear hbx hxx hig hx hcle
            cases b1 : decide (m < cc)
            all_goals cases b2 : (k == 75)
            all_goals cases b3 : (cc != 1)
            all_goals
              rw [b2] at hkq
              rw [b3] at hcq
              have HB123 : Aside0 (badX p.cells x = (decide (m < cc) || (k == 75 && cc != 1))) := HBE
              rw [b1, b2, b3] at HB123
              clear b2 b3
              go_wp2_with fail
              go_quiet (first | (go_at_call 95; exact Calls.quiet_of_same (HMO.out _)) | (go_at_call 96; exact Calls.quiet_of_same (HKI.out _)))
              go_wp2_with fail
              first
              | (go_ret
                 refine ⟨ret_int ?_, ?_⟩
                 · rw [HP.out, if_pos (HANY.out (by rw [HB123.out]; rfl))]
                 · exact pw_below_drewN HC90.out.bel _)
              | (go_roundg (14 - (i + 1))
                 case measure => have := HG.out; omega
                 case rel => exact ⟨i + 1, by go_num, by have := HG.out; omega, ⟨HC90.out.below (pw_below_drewN (Below.refl _ _) _)⟩, ⟨fun i hi => HLT.out i hi⟩, ⟨fun j hj => by
                   by_cases h : j = i
                   · subst h; rw [HXX.out, HB123.out]; rfl
                   · exact HBX.out j (by omega)⟩⟩)
          · have hi : i = 14 := by omega
            subst hi
            have HNA := Aside0.mk (none14 p.cells HBX.out)
            cases rr
            all_goals
              go_wp2_with fail
              go_ret
              refine ⟨ret_int ?_, ?_⟩
              · rw [HP.out, HNA.out]; simp
              · exact HC90.out.bel
end Go.Proofs.YtafmapadkpjliaaGreatDoor.K

/- Walks: sets of squares. -/
namespace Go.Proofs.YtafmapadkpjliaaGreatDoor.K
open Go.RowKit Go.Lib Go.Proofs.YtafmapadkpjliaaGreatDoorW.PrintWords Go.Proofs.YtafmapadkpjliaaGreatDoor.Sp
set_option linter.unusedVariables false
set_option linter.unusedSimpArgs false
/-- A set, as its two words. -/
abbrev setV (a b : Nat) : Value := .agg #[.int .u64 (a : Int), .int .u64 (b : Int)]
theorem mask_at (a : Nat) (h : a < 35184372088832) : bits .and .u64 (a : Int) 35184372088831 = (a : Int) := by
  have := bits_and_u64_nat a 35184372088831 (by omega) (by omega)
  rw [show ((35184372088831 : Nat) : Int) = 35184372088831 from rfl] at this
  rw [this, show (35184372088831 : Nat) = 2 ^ 45 - 1 from rfl, Nat.and_two_pow_sub_one_eq_mod, Nat.mod_eq_of_lt (by omega)]
set_option maxHeartbeats 1000000 in
theorem plain_c (a b : Nat) (ha : a < 35184372088832) (hb : b < 35184372088832) (w : World) : Calls Tryz.prog 198 #[setV a b] w fun e w' => e = .returned (setV a b) ∧ Below w.heap.size w w' := by
  have h1 := mask_at a ha
  have h2 := mask_at b hb
  have a0 : 0 ≤ (a : Int) := by omega
  have a1 : (a : Int) < 35184372088832 := by omega
  have b0 : 0 ≤ (b : Int) := by omega
  have b1 : (b : Int) < 35184372088832 := by omega
  have hu := Tryz.underlying160
  clear ha hb
  go_enter Tryz.func198, Tryz.ntmps198
  go_wp2_with fail
  refine bodyPost_ret (by simp [results, Tryz.results198, go_sem]; try rfl) rfl ?_
  exact ⟨rfl, below_alloc (below_alloc (Below.refl _ _) _) _⟩
/-- A result's box that is still zero. -/
structure RsAt (w0 W : World) (g : Nat) : Prop where
  r0 : W.cell? ⟨g, 0, none⟩ = some (.int .u64 0)
  r1 : W.cell? ⟨g, 1, none⟩ = some (.int .u64 0)
  fr : ∀ k, W.frozen? ⟨g, k, none⟩ = false
  bel : Below w0.heap.size w0 W
theorem RsAt.below {w0 W W' : World} {g : Nat} (h : RsAt w0 W g) (hb : Below W.heap.size W W') : RsAt w0 W' g := by
  have hlt : g < W.heap.size := World.block_lt_of_cell? W ⟨g, 0, none⟩ h.r0
  exact ⟨(hb.cell (p := ⟨g, 0, none⟩) hlt).trans h.r0, (hb.cell (p := ⟨g, 1, none⟩) hlt).trans h.r1, fun k => (hb.frozen (p := ⟨g, k, none⟩) hlt).trans (h.fr k), h.bel.trans (hb.mono h.bel.size)⟩
theorem RsAt.new3 (w : World) (o1 o2 : Obj) : RsAt w (((w.alloc o1).alloc o2).alloc (.cells #[.int .u64 0, .int .u64 0] 160)) (w.heap.size + 1 + 1) :=
  ⟨by simp [World.cell?_alloc_at], by simp [World.cell?_alloc_at], fun k => World.frozen?_alloc_at _ _ _ k (by simp), below_alloc (below_alloc (below_alloc (Below.refl _ _) _) _) _⟩
theorem RsAt.new2 (w : World) (o1 : Obj) : RsAt w ((w.alloc o1).alloc (.cells #[.int .u64 0, .int .u64 0] 160)) (w.heap.size + 1) :=
  ⟨by simp [World.cell?_alloc_at], by simp [World.cell?_alloc_at], fun k => World.frozen?_alloc_at _ _ _ k (by simp), below_alloc (below_alloc (Below.refl _ _) _) _⟩
/-- What the operations of two sets are. -/
theorem or_at (a c : Nat) (ha : a < 35184372088832) (hc : c < 35184372088832) : bits .or .u64 (a : Int) (c : Int) = ((a ||| c : Nat) : Int) ∧ a ||| c < 35184372088832 :=
  ⟨bits_or_u64_nat a c (by omega) (by omega), Nat.or_lt_two_pow (n := 45) ha hc⟩
theorem not_at (a c : Nat) (ha : a < 35184372088832) (hc : c < 35184372088832) : bits .andNot .u64 (a : Int) (c : Int) = ((a &&& (18446744073709551615 - c) : Nat) : Int) ∧ a &&& (18446744073709551615 - c) < 35184372088832 :=
  ⟨u64_andNot_nat a c (by omega) (by omega), Nat.lt_of_le_of_lt Nat.and_le_left ha⟩
set_option maxHeartbeats 1000000 in
theorem sor_c (a b c d : Nat) (ha : a < 35184372088832) (hb : b < 35184372088832) (hc : c < 35184372088832) (hd : d < 35184372088832) (w : World) : Calls Tryz.prog 194 #[setV a b, setV c d] w fun e w' => e = .returned (setV (a ||| c) (b ||| d)) ∧ Below w.heap.size w w' := by
  obtain ⟨h1, k1⟩ := or_at a c ha hc
  obtain ⟨h2, k2⟩ := or_at b d hb hd
  have HP := Aside0.mk (fun W => plain_c (a ||| c) (b ||| d) k1 k2 W)
  have a0 : 0 ≤ (a : Int) := by omega
  have b0 : 0 ≤ (b : Int) := by omega
  have c0 : 0 ≤ (c : Int) := by omega
  have d0 : 0 ≤ (d : Int) := by omega
  have a1 : (a : Int) < 35184372088832 := by omega
  have b1 : (b : Int) < 35184372088832 := by omega
  have c1 : (c : Int) < 35184372088832 := by omega
  have d1 : (d : Int) < 35184372088832 := by omega
  generalize a ||| c = x at *
  generalize b ||| d = y at *
  have hu := Tryz.underlying160
  clear ha hb hc hd k1 k2
  go_enter Tryz.func194, Tryz.ntmps194
  go_wp2_with fail
  refine (HP.out _).mono ?_
  rintro e w1 ⟨rfl, hb⟩
  have HW := Aside0.mk ((RsAt.new3 w _ _).below hb)
  have r0 := HW.out.r0
  have r1 := HW.out.r1
  have fr := HW.out.fr
  clear hb
  go_wp2_with fail
  refine bodyPost_ret (by simp [results, Tryz.results194, go_sem, r0, r1]; try rfl) rfl ?_
  refine ⟨rfl, ?_⟩
  (repeat' (first | (with_reducible exact Below.refl _ _) | (with_reducible refine pw_below_drewN ?_ _) | (with_reducible refine below_alloc ?_ _) | (with_reducible refine Below.drew ?_) | (with_reducible refine Below.setCell ?_ ?_ _) | (simp; done))) <;> first | exact HW.out.bel | (simp; done) | (simp; omega)
set_option maxHeartbeats 1000000 in
theorem sminus_c (a b c d : Nat) (ha : a < 35184372088832) (hb : b < 35184372088832) (hc : c < 35184372088832) (hd : d < 35184372088832) (w : World) : Calls Tryz.prog 210 #[setV a b, setV c d] w fun e w' => e = .returned (setV (a &&& (18446744073709551615 - c)) (b &&& (18446744073709551615 - d))) ∧ Below w.heap.size w w' := by
  obtain ⟨h1, k1⟩ := not_at a c ha hc
  obtain ⟨h2, k2⟩ := not_at b d hb hd
  have HP := Aside0.mk (fun W => plain_c (a &&& (18446744073709551615 - c)) (b &&& (18446744073709551615 - d)) k1 k2 W)
  have a0 : 0 ≤ (a : Int) := by omega
  have b0 : 0 ≤ (b : Int) := by omega
  have c0 : 0 ≤ (c : Int) := by omega
  have d0 : 0 ≤ (d : Int) := by omega
  have a1 : (a : Int) < 35184372088832 := by omega
  have b1 : (b : Int) < 35184372088832 := by omega
  have c1 : (c : Int) < 35184372088832 := by omega
  have d1 : (d : Int) < 35184372088832 := by omega
  generalize a &&& (18446744073709551615 - c) = x at *
  generalize b &&& (18446744073709551615 - d) = y at *
  have hu := Tryz.underlying160
  clear ha hb hc hd k1 k2
  go_enter Tryz.func210, Tryz.ntmps210
  go_wp2_with fail
  refine (HP.out _).mono ?_
  rintro e w1 ⟨rfl, hb⟩
  have HW := Aside0.mk ((RsAt.new3 w _ _).below hb)
  have r0 := HW.out.r0
  have r1 := HW.out.r1
  have fr := HW.out.fr
  clear hb
  go_wp2_with fail
  refine bodyPost_ret (by simp [results, Tryz.results210, go_sem, r0, r1]; try rfl) rfl ?_
  refine ⟨rfl, ?_⟩
  (repeat' (first | (with_reducible exact Below.refl _ _) | (with_reducible refine pw_below_drewN ?_ _) | (with_reducible refine below_alloc ?_ _) | (with_reducible refine Below.drew ?_) | (with_reducible refine Below.setCell ?_ ?_ _) | (simp; done))) <;> first | exact HW.out.bel | (simp; done) | (simp; omega)
theorem shl_at (n : Nat) (hn : n < 64) : Op.shift .shl .u64 1 .i64 (n : Int) = pure (Value.int .u64 ((2 ^ n : Nat) : Int)) := by
  have hp : (2 : Nat) ^ n < 18446744073709551616 := Nat.pow_lt_pow_right (n := 64) (by decide) hn
  rw [shift_shl .u64 .i64 1 (n : Int) (by omega) (by show (n : Int) ≤ 64; omega), Int.toNat_natCast, Int.one_mul, IntKind.wrap_u64]
  have e1 : ((2 ^ n : Nat) : Int) = 2 ^ n := by simp
  rw [← e1]
  generalize 2 ^ n = z at *
  rw [Int.emod_eq_of_lt (by omega) (by omega)]
theorem wrap_pow (n : Nat) (hn : n < 64) : IntKind.u64.wrap (2 ^ n) = ((2 ^ n : Nat) : Int) := by
  have hp : (2 : Nat) ^ n < 18446744073709551616 := Nat.pow_lt_pow_right (n := 64) (by decide) hn
  have e1 : ((2 ^ n : Nat) : Int) = 2 ^ n := by simp
  rw [← e1, IntKind.wrap_u64]
  generalize 2 ^ n = z at *
  rw [Int.emod_eq_of_lt (by omega) (by omega)]
/-- One square's set. -/
theorem pow_lt45 (n : Nat) (hn : n < 45) : (2 : Nat) ^ n < 35184372088832 := Nat.pow_lt_pow_right (n := 45) (by decide) hn
set_option maxRecDepth 100000 in
set_option maxHeartbeats 1000000 in
theorem sone_c (n : Nat) (hn : n < 90) (w : World) : Calls Tryz.prog 195 #[.int .i64 (n : Int)] w fun e w' => e = .returned (if n < 45 then setV (2 ^ n) 0 else setV 0 (2 ^ (n - 45))) ∧ Below w.heap.size w w' := by
  have hu := Tryz.underlying160
  have n0 : 0 ≤ (n : Int) := by omega
  have n1 : (n : Int) < 90 := by omega
  by_cases h : n < 45
  · rw [if_pos h]
    have n2 : (n : Int) < 45 := by omega
    have HSH := Aside0.mk (shl_at n (by omega))
    generalize 2 ^ n = z at *
    clear hn h
    go_enter Tryz.func195, Tryz.ntmps195
    go_upto_region 4 with fail
    clear n0 n1 n2
    have hsh := HSH.out
    go_wp2_with fail
    refine bodyPost_ret (by simp [results, Tryz.results195, go_sem]; try rfl) rfl ?_
    exact ⟨rfl, below_alloc (Below.refl _ _) _⟩
  · rw [if_neg h]
    have n2 : ¬ ((n : Int) < 45) := by omega
    have HSH := Aside0.mk (shl_at (n - 45) (by omega))
    have hm : (n : Int) - 45 = ((n - 45 : Nat) : Int) := by omega
    have HWP := Aside0.mk (wrap_pow (n - 45) (by omega))
    generalize hz : (2 : Nat) ^ (n - 45) = z at *
    clear hz
    generalize n - 45 = m at *
    clear hn h
    go_enter Tryz.func195, Tryz.ntmps195
    go_upto_region 5 with fail
    have hsh := HSH.out
    go_wp2_with fail
    refine bodyPost_ret (by simp [results, Tryz.results195, go_sem]; try rfl) rfl ?_
    exact ⟨by rw [HWP.out]; rfl, below_alloc (Below.refl _ _) _⟩
/-! ### of a set as a test of squares -/
abbrev setF (f : Nat → Bool) : Value := setV (loB f) (hiB f)
def putF (f : Nat → Bool) (n : Nat) : Nat → Bool := fun i => f i || (i == n)
def cutF (f : Nat → Bool) (n : Nat) : Nat → Bool := fun i => f i && !(i == n)
theorem lt45 (f : Nat → Bool) : loB f < 35184372088832 ∧ hiB f < 35184372088832 := ⟨bitsTo_lt _ 45, bitsTo_lt _ 45⟩
theorem one_at (n : Nat) (hn : n < 90) : (if n < 45 then setV (2 ^ n) 0 else setV 0 (2 ^ (n - 45))) = setF (fun i => i == n) := by
  show _ = setV (loB (fun i => i == n)) (hiB (fun i => i == n))
  by_cases h : n < 45
  · have e : hiB (fun i => i == n) = 0 := bits_zero.2 (fun i hi => by simp; omega)
    rw [if_pos h, e, bits_one45 n h]
  · have e : loB (fun i => i == n) = 0 := bits_zero.2 (fun i hi => by simp; omega)
    have e2 : hiB (fun i => i == n) = bitsTo (fun i => i == n - 45) 45 := bitsTo_congr (fun i hi => by rw [Bool.eq_iff_iff, beq_iff_eq, beq_iff_eq]; omega)
    rw [if_neg h, e, e2, bits_one45 (n - 45) (by omega)]
/-- With's boxes. -/
structure WtAt (w0 W : World) (a b : Nat) : Prop where
  e0 : W.cell? ⟨w0.heap.size, 0, none⟩ = some (.int .u64 (a : Int))
  e1 : W.cell? ⟨w0.heap.size, 1, none⟩ = some (.int .u64 (b : Int))
  rs : RsAt w0 W (w0.heap.size + 1)
theorem WtAt.below {w0 W W' : World} {a b : Nat} (h : WtAt w0 W a b) (hb : Below W.heap.size W W') : WtAt w0 W' a b := by
  have hlt : w0.heap.size < W.heap.size := World.block_lt_of_cell? W ⟨w0.heap.size, 0, none⟩ h.e0
  exact ⟨(hb.cell (p := ⟨w0.heap.size, 0, none⟩) hlt).trans h.e0, (hb.cell (p := ⟨w0.heap.size, 1, none⟩) hlt).trans h.e1, h.rs.below hb⟩
theorem WtAt.drew {w0 W : World} {a b : Nat} (h : WtAt w0 W a b) : WtAt w0 W.drew a b := h.below (pw_below_drewN (Below.refl _ _) 1)
theorem WtAt.new (w : World) (a b : Nat) : WtAt w ((w.alloc (.cells #[.int .u64 (a : Int), .int .u64 (b : Int)] 160)).alloc (.cells #[.int .u64 0, .int .u64 0] 160)) a b :=
  ⟨by simp [World.cell?_alloc_at], by simp [World.cell?_alloc_at], RsAt.new2 w _⟩
set_option maxRecDepth 100000 in
set_option maxHeartbeats 2000000 in
theorem with_c (f : Nat → Bool) (n : Nat) (hn : n < 90) (w : World) : Calls Tryz.prog 173 #[setF f, .int .i64 (n : Int)] w fun e w' => e = .returned (setF (putF f n)) ∧ Below w.heap.size w w' := by
  have H1 := Aside0.mk (fun W => sone_c n hn W)
  rw [one_at n hn] at H1
  obtain ⟨l1, l2⟩ := lt45 f
  obtain ⟨m1, m2⟩ := lt45 (fun i => i == n)
  have H2 := Aside0.mk (fun W => sor_c _ _ _ _ l1 l2 m1 m2 W)
  rw [show loB f ||| loB (fun i => i == n) = loB (putF f n) from bits_or45 _ _, show hiB f ||| hiB (fun i => i == n) = hiB (putF f n) from bits_or45 _ _] at H2
  show Calls Tryz.prog 173 #[setV (loB f) (hiB f), .int .i64 (n : Int)] w fun e w' => e = .returned (setV (loB (putF f n)) (hiB (putF f n))) ∧ Below w.heap.size w w'
  have H1 : Aside0 (∀ W, Calls Tryz.prog 195 #[.int .i64 (n : Int)] W fun e w' => e = .returned (setV (loB (fun i => i == n)) (hiB (fun i => i == n))) ∧ Below W.heap.size W w') := H1
  generalize loB f = a at *
  generalize hiB f = b at *
  generalize loB (fun i => i == n) = c at *
  generalize hiB (fun i => i == n) = d at *
  generalize loB (putF f n) = x at *
  generalize hiB (putF f n) = y at *
  have hu := Tryz.underlying160
  clear l1 l2 m1 m2
  go_enter Tryz.func173, Tryz.ntmps173
  go_wp2_with fail
  have HW := Aside0.mk (WtAt.new w a b)
  generalize (w.alloc (.cells #[.int .u64 (a : Int), .int .u64 (b : Int)] 160)).alloc (.cells #[.int .u64 0, .int .u64 0] 160) = W1 at *
  obtain ⟨e0, e1, _⟩ := HW.out
  have HW1 := Aside0.mk HW.out.drew
  clear HW
  have hne : w.heap.size + 1 ≠ w.heap.size := by omega
  go_region_held3 (fun W => W.cell? ⟨w.heap.size, 0, none⟩ = some (.int .u64 (a : Int)) ∧ W.cell? ⟨w.heap.size, 1, none⟩ = some (.int .u64 (b : Int))) (go_keep)
    (first
      | (go_at_call 195; refine (H1.out _).mono ?_; rintro e w2 ⟨rfl, hb⟩; have HW2 := Aside0.mk (HW1.out.below hb); clear HW1 hb e0 e1; obtain ⟨e0, e1, _⟩ := HW2.out)
      | (go_at_call 194; refine (H2.out _).mono ?_; rintro e w3 ⟨rfl, hb⟩; have HW3 := Aside0.mk (HW2.out.below hb); clear HW2 hb e0 e1; obtain ⟨e0, e1, hrs⟩ := HW3.out; have r0 := hrs.r0; have r1 := hrs.r1; have fr := hrs.fr; clear hrs))
  all_goals
    go_wp2_with fail
    refine bodyPost_ret (by simp [results, Tryz.results173, go_sem, r0, r1]; try rfl) rfl ?_
    refine ⟨rfl, ?_⟩
    (repeat' (first | (with_reducible exact Below.refl _ _) | (with_reducible refine pw_below_drewN ?_ _) | (with_reducible refine below_alloc ?_ _) | (with_reducible refine Below.drew ?_) | (with_reducible refine Below.setCell ?_ ?_ _) | (simp; done))) <;> first | exact HW3.out.rs.bel | (simp; done) | (simp; omega)
end Go.Proofs.YtafmapadkpjliaaGreatDoor.K

/- Walks: bits.Set's Without, First. -/
namespace Go.Proofs.YtafmapadkpjliaaGreatDoor.K
open Go.RowKit Go.Lib Go.Proofs.YtafmapadkpjliaaGreatDoorW.PrintWords Go.Proofs.YtafmapadkpjliaaGreatDoor.Sp
set_option linter.unusedVariables false
set_option linter.unusedSimpArgs false
set_option maxRecDepth 100000 in
set_option maxHeartbeats 2000000 in
theorem without_c (f : Nat → Bool) (n : Nat) (hn : n < 90) (w : World) : Calls Tryz.prog 200 #[setF f, .int .i64 (n : Int)] w fun e w' => e = .returned (setF (cutF f n)) ∧ Below w.heap.size w w' := by
  have H1 := Aside0.mk (fun W => sone_c n hn W)
  rw [one_at n hn] at H1
  obtain ⟨l1, l2⟩ := lt45 f
  obtain ⟨m1, m2⟩ := lt45 (fun i => i == n)
  have H2 := Aside0.mk (fun W => sminus_c _ _ _ _ l1 l2 m1 m2 W)
  rw [show loB f &&& (18446744073709551615 - loB (fun i => i == n)) = loB (cutF f n) from bits_not45 _ _, show hiB f &&& (18446744073709551615 - hiB (fun i => i == n)) = hiB (cutF f n) from bits_not45 _ _] at H2
  show Calls Tryz.prog 200 #[setV (loB f) (hiB f), .int .i64 (n : Int)] w fun e w' => e = .returned (setV (loB (cutF f n)) (hiB (cutF f n))) ∧ Below w.heap.size w w'
  have H1 : Aside0 (∀ W, Calls Tryz.prog 195 #[.int .i64 (n : Int)] W fun e w' => e = .returned (setV (loB (fun i => i == n)) (hiB (fun i => i == n))) ∧ Below W.heap.size W w') := H1
  generalize loB f = a at *
  generalize hiB f = b at *
  generalize loB (fun i => i == n) = c at *
  generalize hiB (fun i => i == n) = d at *
  generalize loB (cutF f n) = x at *
  generalize hiB (cutF f n) = y at *
  have hu := Tryz.underlying160
  clear l1 l2 m1 m2
  go_enter Tryz.func200, Tryz.ntmps200
  go_wp2_with fail
  have HW := Aside0.mk (WtAt.new w a b)
  generalize (w.alloc (.cells #[.int .u64 (a : Int), .int .u64 (b : Int)] 160)).alloc (.cells #[.int .u64 0, .int .u64 0] 160) = W1 at *
  obtain ⟨e0, e1, _⟩ := HW.out
  have HW1 := Aside0.mk HW.out.drew
  clear HW
  have hne : w.heap.size + 1 ≠ w.heap.size := by omega
  go_region_held3 (fun W => W.cell? ⟨w.heap.size, 0, none⟩ = some (.int .u64 (a : Int)) ∧ W.cell? ⟨w.heap.size, 1, none⟩ = some (.int .u64 (b : Int))) (go_keep)
    (first
      | (go_at_call 195; refine (H1.out _).mono ?_; rintro e w2 ⟨rfl, hb⟩; have HW2 := Aside0.mk (HW1.out.below hb); clear HW1 hb e0 e1; obtain ⟨e0, e1, _⟩ := HW2.out)
      | (go_at_call 210; refine (H2.out _).mono ?_; rintro e w3 ⟨rfl, hb⟩; have HW3 := Aside0.mk (HW2.out.below hb); clear HW2 hb e0 e1; obtain ⟨e0, e1, hrs⟩ := HW3.out; have r0 := hrs.r0; have r1 := hrs.r1; have fr := hrs.fr; clear hrs))
  all_goals
    go_wp2_with fail
    refine bodyPost_ret (by simp [results, Tryz.results200, go_sem, r0, r1]; try rfl) rfl ?_
    refine ⟨rfl, ?_⟩
    (repeat' (first | (with_reducible exact Below.refl _ _) | (with_reducible refine pw_below_drewN ?_ _) | (with_reducible refine below_alloc ?_ _) | (with_reducible refine Below.drew ?_) | (with_reducible refine Below.setCell ?_ ?_ _) | (simp; done))) <;> first | exact HW3.out.rs.bel | (simp; done) | (simp; omega)
/-! ### the lowest square -/
/-- Go's table of trailing zeros lies as it was laid. -/
abbrev TabW (W : World) : Prop := TabAt 1 Lib.deBruijn64tab W
theorem TabW.lt {W : World} (h : TabW W) : 1 < W.heap.size := World.block_lt_of_cell? W _ (h 0 (by decide))
theorem TabW.keep {W W' : World} (h : TabW W) {B : Nat} (hB : 1 < B) (hb : Below B W W') : TabW W' := fun j hj => (hb.cell (p := ⟨1, j, none⟩) hB).trans (h j hj)
theorem TabW.below {W W' : World} (h : TabW W) (hb : Below W.heap.size W W') : TabW W' := h.keep h.lt hb
theorem tz_core (x k idx : Nat) (w : World) (hx0 : ((x : Int) == 0) = false)
    (key : IntKind.u64.wrap (bits BinOp.and IntKind.u64 (x : Int) (IntKind.u64.wrap (-(x : Int))) * 285870213051353865) / 288230376151711744 = (idx : Int))
    (hi : idx < 64) (hk : k < 64) (hcell : w.cell? ⟨1, idx, none⟩ = some (.int .u8 k)) :
    Calls Tryz.prog 209 #[.int .u64 (x : Int)] w fun e w' => e = .returned (.int .i64 (k : Int)) ∧ w' = w := by
  go_enter Tryz.func209, Tryz.ntmps209
  go_wp2_with (simp only [key])
  go_ret
  exact ⟨rfl, rfl⟩
theorem tz_c (x : Nat) (hx : x < 18446744073709551616) (hx0 : x ≠ 0) (W : World) (hT : TabW W) : Calls Tryz.prog 209 #[.int .u64 (x : Int)] W fun e w' => e = .returned (.int .i64 (Lib.ctz 64 x : Int)) ∧ w' = W := by
  obtain ⟨hlow, hk⟩ := Lib.lowest_bit 64 x hx0 hx
  obtain ⟨hi, htab⟩ := Lib.deBruijn64_at _ hk
  have hcell := hT _ hi
  rw [htab] at hcell
  exact tz_core x _ _ W (by simp; omega) (tz64_key x _ hx hx0 hlow) hi hk hcell
/-- A set's box. -/
structure SvAt (w0 W : World) (a b : Nat) : Prop where
  e0 : W.cell? ⟨w0.heap.size, 0, none⟩ = some (.int .u64 (a : Int))
  e1 : W.cell? ⟨w0.heap.size, 1, none⟩ = some (.int .u64 (b : Int))
  fz : ∀ k, W.frozen? ⟨w0.heap.size, k, none⟩ = false
  bel : Below w0.heap.size w0 W
theorem SvAt.below {w0 W W' : World} {a b : Nat} (h : SvAt w0 W a b) (hb : Below W.heap.size W W') : SvAt w0 W' a b := by
  have hlt : w0.heap.size < W.heap.size := World.block_lt_of_cell? W ⟨w0.heap.size, 0, none⟩ h.e0
  exact ⟨(hb.cell (p := ⟨w0.heap.size, 0, none⟩) hlt).trans h.e0, (hb.cell (p := ⟨w0.heap.size, 1, none⟩) hlt).trans h.e1, fun k => (hb.frozen (p := ⟨w0.heap.size, k, none⟩) hlt).trans (h.fz k), h.bel.trans (hb.mono h.bel.size)⟩
theorem SvAt.new (w : World) (a b : Nat) : SvAt w (w.alloc (.cells #[.int .u64 (a : Int), .int .u64 (b : Int)] 160)) a b :=
  ⟨by simp [World.cell?_alloc_at], by simp [World.cell?_alloc_at], fun k => World.frozen?_alloc_at _ _ _ k rfl, below_alloc (Below.refl _ _) _⟩
theorem SvAt.put {w0 W : World} {a b : Nat} (h : SvAt w0 W a b) (c d : Nat) : SvAt w0 ((W.setCell ⟨w0.heap.size, 0, none⟩ (.int .u64 (c : Int))).setCell ⟨w0.heap.size, 1, none⟩ (.int .u64 (d : Int))) c d := by
  have h0 := h.e0
  have h1 := h.e1
  have hf := h.fz
  exact ⟨by simp [go_sem, h0, h1], by simp [go_sem, h0, h1], fun k => by simp [go_sem, hf], (h.bel.setCell (p := ⟨w0.heap.size, 0, none⟩) (Nat.le_refl _) _).setCell (p := ⟨w0.heap.size, 1, none⟩) (Nat.le_refl _) _⟩
set_option maxRecDepth 100000 in
set_option maxHeartbeats 1000000 in
theorem first_c (f : Nat → Bool) (n : Nat) (tl : List Nat) (h : memL f = n :: tl) (w : World) (hT : TabW w) : Calls Tryz.prog 199 #[setF f] w fun e w' => e = .returned (.int .i64 (n : Int)) ∧ Below w.heap.size w w' := by
  obtain ⟨l1, l2⟩ := lt45 f
  have HP := Aside0.mk (fun W => plain_c _ _ l1 l2 W)
  have hn := (memL_cons h).2.1
  have hfa := first_at h
  have HT1 := Aside0.mk (fun (W : World) (hb : Below w.heap.size w W) => hT.below hb)
  have HTZ1 := Aside0.mk (fun (h0 : loB f ≠ 0) (W : World) (hT : TabW W) => tz_c (loB f) (by omega) h0 W hT)
  have HTZ2 := Aside0.mk (fun (h0 : hiB f ≠ 0) (W : World) (hT : TabW W) => tz_c (hiB f) (by omega) h0 W hT)
  show Calls Tryz.prog 199 #[setV (loB f) (hiB f)] w fun e w' => e = .returned (.int .i64 (n : Int)) ∧ Below w.heap.size w w'
  generalize loB f = a at *
  generalize hiB f = b at *
  have hu := Tryz.underlying160
  have HB0 := Aside0.mk (below_alloc (Below.refl w.heap.size w) (.cells #[.int .u64 (a : Int), .int .u64 (b : Int)] 160))
  clear h hT l1 l2
  rcases hfa with ⟨ha, hc⟩ | ⟨ha, hb0, hc⟩
  · have HTZ := Aside0.mk (HTZ1.out ha)
    rw [hc] at HTZ
    have q1 : ((a : Int) != 0) = true := by rw [bne_iff_ne]; omega
    clear ha hc HTZ1 HTZ2
    go_enter Tryz.func199, Tryz.ntmps199
    go_wp2_with fail
    refine (HP.out _).mono ?_
    rintro e w1 ⟨rfl, hb⟩
    have HS1 := Aside0.mk ((SvAt.new w a b).below hb)
    clear hb
    obtain ⟨e0, e1, fz, _⟩ := HS1.out
    go_upto_region 2 with fail
    have HS2 := Aside0.mk (HS1.out.put a b)
    clear e0 e1 fz HS1
    generalize (w1.setCell ⟨w.heap.size, 0, none⟩ (.int .u64 (a : Int))).setCell ⟨w.heap.size, 1, none⟩ (.int .u64 (b : Int)) = w2 at *
    obtain ⟨e0, e1, fz, _⟩ := HS2.out
    go_wp2_with (go_at_call 209; refine (HTZ.out _ (HT1.out _ HS2.out.bel)).mono ?_; rintro e w3 ⟨rfl, rfl⟩)
    go_ret
    exact ⟨rfl, HS2.out.bel⟩
  · have HTZ := Aside0.mk (HTZ2.out hb0)
    have q1 : ((a : Int) != 0) = false := by rw [bne_eq_false_iff_eq]; omega
    have q2 : ((b : Int) != 0) = true := by rw [bne_iff_ne]; omega
    have hk : (45 : Int) + ((Lib.ctz 64 b : Nat) : Int) = (n : Int) := by omega
    have hk0 : ((Lib.ctz 64 b : Nat) : Int) ≤ 100 := by omega
    generalize Lib.ctz 64 b = k at *
    clear ha hb0 hc HTZ1 HTZ2
    go_enter Tryz.func199, Tryz.ntmps199
    go_wp2_with fail
    refine (HP.out _).mono ?_
    rintro e w1 ⟨rfl, hb⟩
    have HS1 := Aside0.mk ((SvAt.new w a b).below hb)
    clear hb
    obtain ⟨e0, e1, fz, _⟩ := HS1.out
    go_upto_region 2 with fail
    have HS2 := Aside0.mk (HS1.out.put a b)
    clear e0 e1 fz HS1
    generalize (w1.setCell ⟨w.heap.size, 0, none⟩ (.int .u64 (a : Int))).setCell ⟨w.heap.size, 1, none⟩ (.int .u64 (b : Int)) = w2 at *
    obtain ⟨e0, e1, fz, _⟩ := HS2.out
    go_wp2_with (go_at_call 209; refine (HTZ.out _ (HT1.out _ HS2.out.bel)).mono ?_; rintro e w3 ⟨rfl, rfl⟩)
    go_ret
    exact ⟨ret_int (by first | rfl | omega), HS2.out.bel⟩
end Go.Proofs.YtafmapadkpjliaaGreatDoor.K

/- From what a row lays down of the table of trailing zeros to what the walks ask. -/
namespace Go.Proofs.YtafmapadkpjliaaGreatDoor.K
open Go.RowKit Go.Lib
theorem tab_of_laid (W : World) (h : laidMetH Tryz.prog [("math/bits.deBruijn64tab", Rows.laid_math_bits_deBruijn64tab)] W) : TabW W := by
  rw [MakeChecks.laidMetH_plain _ _ _ (by kernel_rfl)] at h
  have hg : Tryz.prog.globalNamed "math/bits.deBruijn64tab" = some 1 := by kernel_rfl
  have ht := Lib.tabIs_of_head (zs := Lib.deBruijn64tab.map fun n : Nat => (n : Int)) (k := .u8) (rest := []) (n := 64) hg (t := 198) (e := 5) (by kernel_rfl) Tryz.underlying198 Tryz.underlying5 (by kernel_rfl) (by kernel_rfl) h
  intro j hj
  have := ht.cell hg j (by simpa using hj)
  rw [this]
  simp [List.getD_eq_getElem?_getD, hj]
end Go.Proofs.YtafmapadkpjliaaGreatDoor.K

/- The world in which the table of trailing zeros lies, for the rows' witnesses. -/
namespace Go.Proofs.YtafmapadkpjliaaGreatDoor.K
open Go
set_option maxRecDepth 100000
abbrev laidL : List (String × DataW Unit) := [("math/bits.deBruijn64tab", Rows.laid_math_bits_deBruijn64tab)]
theorem wit_shaped (os : Os) (args : Array Value) : ((World.laidAll Tryz.prog os laidL).forCall (fun _ _ => 0) ⟨#[], args, []⟩).Shaped Tryz.prog :=
  World.shaped_of_ZipB (by kernel_rfl) (by kernel_rfl)
theorem wit_laid (os : Os) (args : Array Value) : laidMetH Tryz.prog laidL ((World.laidAll Tryz.prog os laidL).forCall (fun _ _ => 0) ⟨#[], args, []⟩).memory := by
  rw [MakeChecks.laidMetH_plain _ _ _ (by kernel_rfl)]
  exact laidMet_laidAll _ (by kernel_rfl) (by kernel_rfl)
end Go.Proofs.YtafmapadkpjliaaGreatDoor.K

/- Walks of key: place, Next. -/
namespace Go.Proofs.YtafmapadkpjliaaGreatDoor.K
open Go.RowKit Go.Lib Go.Proofs.YtafmapadkpjliaaGreatDoorW.PrintWords Go.Proofs.YtafmapadkpjliaaGreatDoor.Sp
set_option linter.unusedVariables false
set_option linter.unusedSimpArgs false
/-- What is a uint64. -/
def U64 (x : Int) : Prop := 0 ≤ x ∧ x < 18446744073709551616
theorem xor_u64 (a b : Int) : U64 (bits .xor .u64 a b) := by
  unfold bits
  rw [IntKind.wrap_u64]
  unfold U64
  omega
theorem idx_14 (x : UInt8) : -1 ≤ Lib.indexByte [75, 65, 66, 78, 82, 67, 80, 107, 97, 98, 110, 114, 99, 112] x ∧ Lib.indexByte [75, 65, 66, 78, 82, 67, 80, 107, 97, 98, 110, 114, 99, 112] x ≤ 13 := by
  have h : ∀ n : Fin 256, -1 ≤ Lib.indexByte [75, 65, 66, 78, 82, 67, 80, 107, 97, 98, 110, 114, 99, 112] (UInt8.ofNat n.1) ∧ Lib.indexByte [75, 65, 66, 78, 82, 67, 80, 107, 97, 98, 110, 114, 99, 112] (UInt8.ofNat n.1) ≤ 13 := by decide +kernel
  have := h ⟨x.toNat, x.toNat_lt⟩
  simpa using this
set_option maxRecDepth 100000 in
set_option maxHeartbeats 2000000 in
theorem kplace_c (x n : Nat) (hx : x < 256) (hn : n < 90) (w : World) : Calls Tryz.prog 80 #[.int .u8 (x : Int), .int .i64 (n : Int)] w fun e w' => ∃ z : Nat, e = .returned (.int .i64 (z : Int)) ∧ z ≤ 1260 ∧ w' = w := by
  have HF := Aside0.mk (fun W => file_c n hn W)
  have HI := idx_14 (UInt8.ofNat x)
  have HN := Aside0.mk hn
  have hf0 : (0 : Int) ≤ ((n % 9 : Nat) : Int) := by omega
  generalize hi : Lib.indexByte [75, 65, 66, 78, 82, 67, 80, 107, 97, 98, 110, 114, 99, 112] (UInt8.ofNat x) = i at *
  generalize n % 9 = f at *
  have hnz : (n : Int) < 90 := by omega
  clear hn
  obtain ⟨h1, h2⟩ := HI
  by_cases h : i < 0
  · go_enter Tryz.func80, Tryz.ntmps80
    go_wp2_with (first | (go_at_call 107; refine (Tryz.strings_IndexByte _ _ _).mono ?_; rintro e w' ⟨rfl, rfl⟩) | (go_at_call 98; refine (HF.out _).mono ?_; rintro e w' ⟨rfl, rfl⟩))
    go_ret
    exact ⟨0, rfl, by decide, rfl⟩
  · obtain ⟨j, hij⟩ : ∃ j : Nat, i = (j : Int) := ⟨i.toNat, by omega⟩
    rw [hij] at hi h h1 h2
    clear hij
    have hj : (j : Int) ≤ 13 := h2
    go_enter Tryz.func80, Tryz.ntmps80
    go_wp2_with (first | (go_at_call 107; refine (Tryz.strings_IndexByte _ _ _).mono ?_; rintro e w' ⟨rfl, rfl⟩) | (go_at_call 98; refine (HF.out _).mono ?_; rintro e w' ⟨rfl, rfl⟩))
    go_ret
    refine ⟨1 + 90 * j + n, ret_int ?_, by have := HN.out; omega, rfl⟩
    push_cast
    omega
set_option maxRecDepth 100000 in
set_option maxHeartbeats 2000000 in
theorem knext_c (x : Int) (hx : U64 x) (w : World) : Calls Tryz.prog 117 #[.int .u64 x] w fun e w' => ∃ y : Int, e = .returned (.int .u64 y) ∧ U64 y ∧ w' = w := by
  have HX := Aside0.mk hx
  clear hx
  go_enter Tryz.func117, Tryz.ntmps117
  go_wp2
  go_ret
  exact ⟨_, rfl, xor_u64 _ _, rfl⟩
end Go.Proofs.YtafmapadkpjliaaGreatDoor.K

/- Walks: a set's iterator, gathered into a list (1): what stands between two rounds. -/
namespace Go.Proofs.YtafmapadkpjliaaGreatDoor.K
open Go.RowKit Go.Lib Go.Shelf Go.Maps Go.Sort Go.Proofs.YtafmapadkpjliaaGreatDoorW.PrintWords Go.Proofs.YtafmapadkpjliaaGreatDoor.Sp
set_option linter.unusedVariables false
set_option linter.unusedSimpArgs false
def renZ : Go.Shelf.Ren := ⟨fun | 8 => 174 | 11 => 196 | n => n, fun | 24 => 94 | 26 => 3 | 28 => 168 | 33 => 130 | 0 => 0 | n => n, fun n => n⟩
theorem laysZ : SlLaysZI.n8 Tryz.prog renZ := {
  mixed := by kernel_rfl
  f8 := ⟨Tryz.f174.name, by decide, Tryz.func174.trans (congrArg some (by kernel_rfl))⟩
  f11 := ⟨Tryz.f196.name, by decide, Tryz.func196.trans (congrArg some (by kernel_rfl))⟩
  t0 := Tryz.underlying0
  a0 := Tryz.isAgg0
  z0 := Tryz.sizeOf0
  v0 := Tryz.zeroValue0
  t24 := Tryz.underlying94
  a24 := Tryz.isAgg94
  z24 := Tryz.sizeOf94
  v24 := Tryz.zeroValue94
  t26 := Tryz.underlying3
  a26 := Tryz.isAgg3
  z26 := Tryz.sizeOf3
  v26 := Tryz.zeroValue3
  t28 := Tryz.underlying168
  a28 := Tryz.isAgg168
  z28 := Tryz.sizeOf168
  v28 := Tryz.zeroValue168
  i26 := by kernel_rfl }
/-- A box that holds a set. -/
structure BoxAt (B a b : Nat) (W : World) : Prop where
  e0 : W.cell? ⟨B, 0, none⟩ = some (.int .u64 (a : Int))
  e1 : W.cell? ⟨B, 1, none⟩ = some (.int .u64 (b : Int))
  fz : ∀ k, W.frozen? ⟨B, k, none⟩ = false
theorem BoxAt.lt {B a b : Nat} {W : World} (h : BoxAt B a b W) : B < W.heap.size := World.block_lt_of_cell? W ⟨B, 0, none⟩ h.e0
theorem BoxAt.keep {B a b : Nat} {W W' : World} (h : BoxAt B a b W) {n : Nat} (hn : B < n) (hb : Below n W W') : BoxAt B a b W' :=
  ⟨(hb.cell (p := ⟨B, 0, none⟩) hn).trans h.e0, (hb.cell (p := ⟨B, 1, none⟩) hn).trans h.e1, fun k => (hb.frozen (p := ⟨B, k, none⟩) hn).trans (h.fz k)⟩
theorem BoxAt.below {B a b : Nat} {W W' : World} (h : BoxAt B a b W) (hb : Below W.heap.size W W') : BoxAt B a b W' := h.keep h.lt hb
/-- The world with another set in the box. -/
abbrev putB (W : World) (B c d : Nat) : World := (W.setCell ⟨B, 0, none⟩ (.int .u64 (c : Int))).setCell ⟨B, 1, none⟩ (.int .u64 (d : Int))
theorem BoxAt.put {B a b : Nat} {W : World} (h : BoxAt B a b W) (c d : Nat) : BoxAt B c d (putB W B c d) := by
  have h0 := h.e0
  have h1 := h.e1
  have hf := h.fz
  exact ⟨by simp [go_sem, h0, h1], by simp [go_sem, h0, h1], fun k => by simp [go_sem, hf]⟩
theorem putB_heap (W : World) (B c d k : Nat) (h : k ≠ B) : (putB W B c d).heap[k]? = W.heap[k]? :=
  (Below.heap_setCell _ ⟨B, 1, none⟩ _ k h).trans (Below.heap_setCell _ ⟨B, 0, none⟩ _ k h)
theorem putB_size (W : World) (B c d : Nat) : (putB W B c d).heap.size = W.heap.size := by simp [World.setCell]
theorem putB_below {n : Nat} {a : World} {W : World} (h : Below n a W) (B c d : Nat) (hB : n ≤ B) : Below n a (putB W B c d) :=
  (h.setCell (p := ⟨B, 0, none⟩) hB _).setCell (p := ⟨B, 1, none⟩) hB _
theorem below_putB {n : Nat} {a b : World} (h : Below n a b) (ha : n ≤ a.heap.size) (B c d : Nat) : Below n (putB a B c d) (putB b B c d) where
  os := h.os
  tape := h.tape
  output := h.output
  size := by rw [putB_size, putB_size]; exact h.size
  block := fun k hk => by
    simp only [putB, World.setCell, Array.getElem?_modify]
    rw [h.block k hk]
theorem ApAt.put {w0 : World} {fn : FuncId} {sv : Value} {Bs l D : Nat} {ss : List Int} {W : World} (h : AnyZI.ApAt renZ w0 fn sv Bs l D ss W) (B c d : Nat) (hB : B < w0.heap.size) (h1 : w0.heap.size ≤ Bs) (h2 : w0.heap.size ≤ l) (h3 : w0.heap.size ≤ D) : AnyZI.ApAt renZ (putB w0 B c d) fn sv Bs l D ss (putB W B c d) := by
  obtain ⟨v, hv, hr, hn⟩ := h.box
  refine ⟨⟨v, (putB_heap _ _ _ _ _ (by omega)).trans hv, ?_, hn⟩, (putB_heap _ _ _ _ _ (by omega)).trans h.L, (putB_heap _ _ _ _ _ (by omega)).trans h.K, ?_⟩
  · rw [putB_size]
    exact ownsRow_setCell_below (ownsRow_setCell_below hr (a := ⟨B, 0, none⟩) hB _) (a := ⟨B, 1, none⟩) hB _
  · rw [putB_size]
    exact below_putB h.below (Nat.le_refl _) _ _ _
theorem ApAt.below' {w0 : World} {fn : FuncId} {sv : Value} {Bs l D : Nat} {ss : List Int} {W W' : World} (h : AnyZI.ApAt renZ w0 fn sv Bs l D ss W) (hb : Below W.heap.size W W') : AnyZI.ApAt renZ w0 fn sv Bs l D ss W' := by
  obtain ⟨v, hv, hr, hn⟩ := h.box
  refine ⟨⟨v, (hb.block _ (Array.getElem?_eq_some_iff.1 hv).1).trans hv, ?_, hn⟩, (hb.block _ (Array.getElem?_eq_some_iff.1 h.L).1).trans h.L, (hb.block _ (Array.getElem?_eq_some_iff.1 h.K).1).trans h.K, h.below.trans (hb.mono h.below.size)⟩
  exact hr.kept (row := none) ⟨hb.os, hb.tape, hb.output, hb.size, fun j hj _ => hb.block j hj⟩ (by cases hv : v.ownBlock <;> simp)
/-- BETWEEN TWO ROUNDS: the box Bm of the iterator holds a set; what has come lies in Collect's own row. -/
def JAt (w00 : World) (S0 Bm : Nat) (fn : FuncId) (sv : Value) (Bs l D a b : Nat) (pre : List Int) (W : World) : Prop :=
  ∃ w0 : World, w0.heap.size = S0 ∧ Below w00.heap.size w00 w0 ∧ BoxAt Bm a b w0 ∧ AnyZI.ApAt renZ w0 fn sv Bs l D pre W
section
variable {w00 : World} {S0 Bm : Nat} {fn : FuncId} {sv : Value} {Bs l D a b : Nat} {pre : List Int} {W W' : World}
theorem JAt.box (h : JAt w00 S0 Bm fn sv Bs l D a b pre W) : BoxAt Bm a b W := by
  obtain ⟨w0, h0, h1, h2, h3⟩ := h
  exact h2.below h3.below
theorem JAt.bel (h : JAt w00 S0 Bm fn sv Bs l D a b pre W) : Below w00.heap.size w00 W := by
  obtain ⟨w0, h0, h1, h2, h3⟩ := h
  exact h1.trans (h3.below.mono h1.size)
theorem JAt.later (h : JAt w00 S0 Bm fn sv Bs l D a b pre W) (hb : Below W.heap.size W W') : JAt w00 S0 Bm fn sv Bs l D a b pre W' := by
  obtain ⟨w0, h0, h1, h2, h3⟩ := h
  exact ⟨w0, h0, h1, h2, ApAt.below' h3 hb⟩
theorem JAt.put (h : JAt w00 S0 Bm fn sv Bs l D a b pre W) (c d : Nat) (hm : w00.heap.size ≤ Bm) (h1 : S0 ≤ Bs) (h2 : S0 ≤ l) (h3 : S0 ≤ D) : JAt w00 S0 Bm fn sv Bs l D c d pre (putB W Bm c d) := by
  obtain ⟨w0, h0, hb, hx, hA⟩ := h
  have := hx.lt
  exact ⟨putB w0 Bm c d, by rw [putB_size]; exact h0, putB_below hb _ _ _ hm, hx.put c d, ApAt.put hA _ _ _ hx.lt (by omega) (by omega) (by omega)⟩
theorem JAt.yield (n m : Nat) (hBl : Bs ≠ l) (hDl : D ≠ l) (hDB : D ≠ Bs) (h0B : S0 ≤ Bs) (h0l : S0 ≤ l) (hlen : pre.length < 90) (x : Int) (h : JAt w00 S0 Bm fn sv Bs l D a b pre W) :
    YieldAt Fence.wide m Tryz.prog l #[encZ x] W fun e W' => e = .returned (.bool true) ∧ JAt w00 S0 Bm fn sv Bs l D a b (pre ++ [x]) W' := by
  obtain ⟨w0, h0, hb, hx, hA⟩ := h
  obtain ⟨fn', tmps, assign, body, hy, hR⟩ := AnyZI.apYield { laysZ with } Fence.wide m w0 fn trivial sv Bs l D hBl hDl hDB (by omega) (by omega) 90 (by decide) (by decide) pre x W hA hlen
  refine ⟨fn', tmps, assign, body, hy, hR.mono ?_⟩
  rintro e W' ⟨rfl, hA', _⟩
  exact ⟨rfl, w0, h0, hb, hx, hA'⟩
end
end Go.Proofs.YtafmapadkpjliaaGreatDoor.K

/- Walks: a set's iterator, gathered into a list (2): the iterator. -/
namespace Go.Proofs.YtafmapadkpjliaaGreatDoor.K
open Go.RowKit Go.Lib Go.Shelf Go.Maps Go.Sort Go.Proofs.YtafmapadkpjliaaGreatDoorW.PrintWords Go.Proofs.YtafmapadkpjliaaGreatDoor.Sp
set_option linter.unusedVariables false
set_option linter.unusedSimpArgs false
attribute [local go_sem] Oper.semAt_some
/-- How many squares a box's set holds. -/
def leftS (Bm : Nat) (w : World) : Nat :=
  match w.cell? ⟨Bm, 0, none⟩, w.cell? ⟨Bm, 1, none⟩ with
  | some (.int _ x), some (.int _ y) => (memL fun i => if i < 45 then x.toNat.testBit i else y.toNat.testBit (i - 45)).length
  | _, _ => 0
theorem memL_congr {f g : Nat → Bool} (h : ∀ i, i < 90 → f i = g i) : memL f = memL g :=
  List.filter_congr fun i hi => h i (List.mem_range.1 hi)
theorem leftS_eq {Bm : Nat} {f : Nat → Bool} {w : World} (h : BoxAt Bm (loB f) (hiB f) w) : leftS Bm w = (memL f).length := by
  unfold leftS
  rw [h.e0, h.e1]
  refine congrArg List.length (memL_congr fun i hi => ?_)
  by_cases h1 : i < 45
  · rw [if_pos h1]
    show (bitsTo f 45).testBit i = _
    rw [bitsTo_test]
    simp [h1]
  · rw [if_neg h1]
    show (bitsTo (fun i => f (45 + i)) 45).testBit (i - 45) = _
    rw [bitsTo_test]
    simp [show i - 45 < 45 by omega, show 45 + (i - 45) = i by omega]
/-- Whole numbers of a list. -/
abbrev toI (l : List Nat) : List Int := l.map fun n : Nat => (n : Int)
theorem memL_len (f : Nat → Bool) : (memL f).length ≤ 90 := by
  have := List.length_filter_le f (List.range 90)
  rw [List.length_range] at this
  exact this
set_option maxRecDepth 100000 in
set_option maxHeartbeats 2000000 in
theorem each1_in (f : Nat → Bool) (n : Nat) (hn : 1 ≤ n) (w00 : World) (hT : TabW w00) (S0 Bm : Nat) (fn : FuncId) (sv : Value) (Bs l D : Nat) (hm : w00.heap.size ≤ Bm) (hBl : Bs ≠ l) (hDl : D ≠ l) (hDB : D ≠ Bs) (h0B : S0 ≤ Bs) (h0l : S0 ≤ l) (h0D : S0 ≤ D) (W : World)
    (h0 : JAt w00 S0 Bm fn sv Bs l D (loB f) (hiB f) [] W) :
    CallsIn Fence.wide n Tryz.prog 197 #[.func (.yield l) #[] #[], .pointer (some ⟨Bm, 0, none⟩)] W fun e W' => (∃ v, e = .returned v) ∧ ∃ a b, JAt w00 S0 Bm fn sv Bs l D a b (toI (memL f)) W' := by
  have hu := Tryz.underlying160
  obtain ⟨l1, l2⟩ := lt45 f
  have HP := Aside0.mk (fun W => plain_c _ _ l1 l2 W)
  obtain ⟨e0, e1, fz⟩ := h0.box
  refine callsIn_of_wp Tryz.func197 rfl trivial ?_ rfl
  simp only [Tryz.ntmps197, List.size_toArray, List.length_cons, List.length_nil, Nat.reduceAdd, Nat.reduceSub, Array.replicate_succ, Array.replicate_zero, List.push_toArray, List.append_toArray, List.nil_append, List.cons_append]
  gi_wp2_with (refine ⟨trivial, ?_⟩; gi_at_call 198; refine (callsIn_wide.2 (HP.out _)).mono ?_; rintro e w1 ⟨rfl, hb⟩; have h1 := h0.later hb; obtain ⟨f0, f1, fz1⟩ := h1.box)
  obtain ⟨W1, hW1⟩ : ∃ W1, putB w1 Bm (loB f) (hiB f) = W1 := ⟨_, rfl⟩
  have hJ1 := h1.put (loB f) (hiB f) hm h0B h0l h0D
  rw [hW1] at hJ1
  change Code.wpIn _ _ _ _ _ _ (putB w1 Bm (loB f) (hiB f))
  rw [hW1]
  clear hW1 h1 f0 f1 fz1 hb
  gi_loopw [3] (fun s wr => ∃ (g : Nat → Bool) (pre : List Nat), memL f = pre ++ memL g ∧ JAt w00 S0 Bm fn sv Bs l D (loB g) (hiB g) (toI pre) wr)
    (fun _ wr => leftS Bm wr)
  case atStart => exact ⟨f, [], rfl, hJ1⟩
  case round =>
    obtain ⟨g, pre, hm1, hJ⟩ := hrel
    obtain ⟨g0, g1, gz⟩ := hJ.box
    have hlf := leftS_eq hJ.box
    cases hml : memL g with
    | nil =>
      obtain ⟨hz0, hz1⟩ := memL_nil hml
      rw [hz0] at g0
      rw [hz1] at g1
      gi_wp2
      go_end0
      exact ⟨⟨_, rfl⟩, loB g, hiB g, by rw [hm1, hml, List.append_nil]; exact hJ⟩
    | cons x tl =>
      have hT2 := hT.below hJ.bel
      have hF := Aside0.mk (fun (W : World) (hT : TabW W) => first_c g x tl hml W hT)
      obtain ⟨gx, hx90, _, htl⟩ := memL_cons hml
      have hWo := Aside0.mk (fun (W : World) => without_c g x hx90 W)
      have hlen : (toI pre).length < 90 := by
        have h9 := memL_len f
        rw [hm1, hml, List.length_append, List.length_cons] at h9
        simp
        omega
      have hab : loB g ≠ 0 ∨ (loB g = 0 ∧ hiB g ≠ 0) := by
        rcases first_at hml with ⟨h, _⟩ | ⟨h, h', _⟩
        · exact .inl h
        · exact .inr ⟨h, h'⟩
      have hend : ∀ W', JAt w00 S0 Bm fn sv Bs l D (loB (cutF g x)) (hiB (cutF g x)) (toI (pre ++ [x])) W' → (∃ (g : Nat → Bool) (pre : List Nat), memL f = pre ++ memL g ∧ JAt w00 S0 Bm fn sv Bs l D (loB g) (hiB g) (toI pre) W') ∧ leftS Bm W' < leftS Bm wr := fun W' hJ' =>
        ⟨⟨cutF g x, pre ++ [x], by rw [hm1, hml, show memL (cutF g x) = tl from htl]; simp, hJ'⟩, by rw [hlf, leftS_eq hJ'.box, show memL (cutF g x) = tl from htl, hml]; simp⟩
      have hend := Aside0.mk hend
      have hF : Aside0 (∀ W, TabW W → Calls Tryz.prog 199 #[setV (loB g) (hiB g)] W fun e w' => e = .returned (.int .i64 (x : Int)) ∧ Below W.heap.size W w') := hF
      have hWo : Aside0 (∀ W, Calls Tryz.prog 200 #[setV (loB g) (hiB g), .int .i64 (x : Int)] W fun e w' => e = .returned (setV (loB (cutF g x)) (hiB (cutF g x))) ∧ Below W.heap.size W w') := hWo
      clear hml hm1 hlf hT htl gx h0 hJ1 HP l1 l2 e0 e1 fz
      generalize loB g = a at *
      generalize hiB g = b at *
      generalize loB (cutF g x) = a' at *
      generalize hiB (cutF g x) = b' at *
      have q : (¬ ((a : Int) = 0)) ∨ (a = 0 ∧ ¬ ((b : Int) = 0)) := by omega
      clear hab
      rcases q with q | ⟨rfl, q⟩
      all_goals
        gi_wp2_with (first
          | (refine ⟨trivial, ?_⟩; gi_at_call 199; refine (callsIn_wide.2 (hF.out _ hT2)).mono ?_; rintro e w2 ⟨rfl, hb2⟩; have hJ2 := Aside0.mk (hJ.later hb2); obtain ⟨fn', tmps, assign, body, hy, hR⟩ := hJ2.out.yield n (n - 1) hBl hDl hDB h0B h0l hlen x)
          )
        refine hR.mono ?_
        rintro e W3 ⟨rfl, hJ3⟩
        clear hy hR hJ2 hb2 g0 g1 gz hJ hF
        have hJ3 := Aside0.mk hJ3
        obtain ⟨g0, g1, gz⟩ := hJ3.out.box
        gi_wp2_with (first
          | (refine ⟨trivial, ?_⟩; gi_at_call 200; refine (callsIn_wide.2 (hWo.out _)).mono ?_; rintro e w4 ⟨rfl, hb4⟩; have hJ4 := Aside0.mk (hJ3.out.later hb4); clear g0 g1 gz; obtain ⟨g0, g1, gz⟩ := hJ4.out.box))
        have hJ5 := hJ4.out.put a' b' hm h0B h0l h0D
        rw [show toI pre ++ [(x : Int)] = toI (pre ++ [x]) by simp] at hJ5
        go_roundw
        case rel => exact (hend.out _ hJ5).1
        case measure => exact (hend.out _ hJ5).2
end Go.Proofs.YtafmapadkpjliaaGreatDoor.K

/- key's row: its iterator, as long as a round asks for more. -/
namespace Go.Proofs.YtafmapadkpjliaaGreatDoor.K
open Go.RowKit Go.Lib Go.Shelf Go.Maps Go.Sort Go.Proofs.YtafmapadkpjliaaGreatDoorW.PrintWords Go.Proofs.YtafmapadkpjliaaGreatDoor.Sp
set_option linter.unusedVariables false
set_option linter.unusedSimpArgs false
attribute [local go_sem] Oper.semAt_some
set_option maxRecDepth 100000 in
set_option maxHeartbeats 2000000 in
theorem row1_in (n : Nat) (hn : 1 ≤ n) (l : Nat) (J : Nat → World → Prop) (Jx : World → Prop)
    (hY : ∀ (j : Nat) (x : Int) (W : World), j ≤ 1261 → U64 x → J j W → YieldAt Fence.wide (n - 1) Tryz.prog l #[.int .i64 (j : Int), .int .u64 x] W fun e W' => (e = .returned (.bool true) ∧ j < 1261 ∧ J (j + 1) W') ∨ (e = .returned (.bool false) ∧ Jx W'))
    (W : World) (h0 : J 0 W) :
    CallsIn Fence.wide n Tryz.prog 116 #[.func (.yield l) #[] #[]] W fun e W' => (∃ v, e = .returned v) ∧ Jx W' := by
  have HN := Aside0.mk (fun (x : Int) (hx : U64 x) (W : World) => knext_c x hx W)
  refine callsIn_of_wp Tryz.func116 rfl trivial ?_ rfl
  simp only [Tryz.ntmps116, List.size_toArray, List.length_cons, List.length_nil, Nat.reduceAdd, Nat.reduceSub, Array.replicate_succ, Array.replicate_zero, List.push_toArray, List.append_toArray, List.nil_append, List.cons_append]
  gi_wp2
  gi_loopw [2, 3] (fun s2 s3 wr => ∃ (j : Nat) (x : Int), s2 = .int .u64 x ∧ s3 = .int .i64 (j : Int) ∧ j ≤ 1261 ∧ U64 x ∧ J j wr)
    (fun _ s3 _ => match s3 with | .int _ m => 1262 - m.toNat | _ => 0)
  case atStart => exact ⟨0, 7640891576956012809, rfl, rfl, by omega, by unfold U64; omega, h0⟩
  case round =>
    obtain ⟨j, x, rfl, rfl, hj, hx, hJ⟩ := hrel
    obtain ⟨fn, tmps, assign, body, hy, hR⟩ := hY j x wr hj hx hJ
    have hjz : (j : Int) ≤ 1261 := by omega
    gi_wp2
    refine hR.mono ?_
    rintro e W3 (⟨rfl, hlt, hJ3⟩ | ⟨rfl, hJx⟩)
    · clear hy hR
      gi_wp2_with (refine ⟨trivial, ?_⟩; gi_at_call 117; refine (callsIn_wide.2 (HN.out x hx _)).mono ?_; rintro e w2 ⟨y, rfl, hy2, rfl⟩)
      go_roundw
      case rel => exact ⟨j + 1, y, rfl, by go_num, by omega, hy2, hJ3⟩
      case measure => simp; omega
    · gi_wp2
      go_end0
      exact ⟨⟨_, rfl⟩, hJx⟩
theorem row_c (w : World) : Calls Tryz.prog 81 #[] w fun e w' => e = .returned (.func (.func 116) #[] #[]) ∧ w' = w := by
  go_enter Tryz.func81, Tryz.ntmps81
  go_wp2
  go_ret
  exact ⟨rfl, rfl⟩
end Go.Proofs.YtafmapadkpjliaaGreatDoor.K

/- Plain law: sorted lists without repetition; rays; what a line of sight meets first and second. -/
namespace Go.Proofs.YtafmapadkpjliaaGreatDoor.Sp

/-! ### strictly rising lists -/
theorem rising_eq : ∀ {l l' : List Int}, l.Pairwise (· < ·) → l'.Pairwise (· < ·) → (∀ x, x ∈ l ↔ x ∈ l') → l = l'
  | [], [], _, _, _ => rfl
  | [], y :: l', _, _, h => absurd ((h y).2 List.mem_cons_self) (by simp)
  | x :: l, [], _, _, h => absurd ((h x).1 List.mem_cons_self) (by simp)
  | x :: l, y :: l', h1, h2, h => by
    rw [List.pairwise_cons] at h1 h2
    have hxy : x = y := by
      have a := (h x).1 List.mem_cons_self
      have b := (h y).2 List.mem_cons_self
      rcases List.mem_cons.1 a with a | a
      · exact a
      · rcases List.mem_cons.1 b with b | b
        · exact b.symm
        · have := h1.1 y b
          have := h2.1 x a
          omega
    subst hxy
    congr 1
    refine rising_eq h1.2 h2.2 (fun z => ?_)
    constructor
    · intro hz
      rcases List.mem_cons.1 ((h z).1 (List.mem_cons_of_mem _ hz)) with e | e
      · subst e; exact absurd (h1.1 z hz) (by omega)
      · exact e
    · intro hz
      rcases List.mem_cons.1 ((h z).2 (List.mem_cons_of_mem _ hz)) with e | e
      · subst e; exact absurd (h2.1 z hz) (by omega)
      · exact e

theorem sorted_get {zs : List Int} (h : zs.Pairwise (· ≤ ·)) {i j : Nat} (hij : i ≤ j) (hj : j < zs.length) : zs.toArray[i]! ≤ zs.toArray[j]! := by
  have hi : i < zs.length := by omega
  rw [getElem!_pos zs.toArray i (by simpa using hi), getElem!_pos zs.toArray j (by simpa using hj)]
  simp only [List.getElem_toArray]
  rcases Nat.lt_or_ge i j with h1 | h1
  · exact List.pairwise_iff_getElem.1 h i j hi hj h1
  · have : i = j := by omega
    subst this
    exact Int.le_refl _

theorem compact_mem {zs : List Int} (x : Int) : x ∈ Lib.compact zs ↔ x ∈ zs := by
  unfold Lib.compact Lib.compactUpTo
  rw [List.mem_map]
  constructor
  · rintro ⟨j, hj, rfl⟩
    have hl : j < zs.length := List.mem_range.1 (List.mem_filter.1 hj).1
    rw [getElem!_pos zs.toArray j (by simpa using hl)]
    simp
  · intro hx
    -- the first place of x
    have key : ∀ n, (∃ j, j < n ∧ j < zs.length ∧ zs.toArray[j]! = x) → ∃ j, j < zs.length ∧ zs.toArray[j]! = x ∧ ∀ i, i < j → zs.toArray[i]! ≠ x := by
      intro n
      induction n with
      | zero => rintro ⟨j, hj, _⟩; omega
      | succ n ih =>
        rintro ⟨j, hj, hl, he⟩
        by_cases h : ∃ i, i < n ∧ i < zs.length ∧ zs.toArray[i]! = x
        · exact ih h
        · refine ⟨j, hl, he, fun i hi hix => h ⟨i, ?_, by omega, hix⟩⟩
          omega
    obtain ⟨j, hj, hjx⟩ := List.getElem_of_mem hx
    obtain ⟨j, hl, he, hmin⟩ := key (j + 1) ⟨j, by omega, hj, by rw [getElem!_pos zs.toArray j (by simpa using hj)]; simpa using hjx⟩
    refine ⟨j, List.mem_filter.2 ⟨List.mem_range.2 hl, ?_⟩, he⟩
    by_cases h0 : j = 0
    · subst h0; exact Lib.keeps_lt_one _ 0 (by omega)
    · exact Lib.keeps_pos (by rw [he]; exact Ne.symm (hmin (j - 1) (by omega)))

theorem compact_rising {zs : List Int} (h : zs.Pairwise (· ≤ ·)) : (Lib.compact zs).Pairwise (· < ·) := by
  unfold Lib.compact Lib.compactUpTo
  rw [List.pairwise_map]
  have hr : ((List.range zs.length).filter (Lib.keeps zs.toArray)).Pairwise (· < ·) := List.pairwise_lt_range.filter _
  refine hr.imp_of_mem ?_
  intro i j hi hj hij
  have hjl : j < zs.length := List.mem_range.1 (List.mem_filter.1 hj).1
  have hk := (List.mem_filter.1 hj).2
  have h1 := sorted_get h (i := i) (j := j - 1) (by omega) (by omega)
  have h2 := sorted_get h (i := j - 1) (j := j) (by omega) hjl
  have hne : zs.toArray[j]! ≠ zs.toArray[j - 1]! := by
    intro e
    rw [Lib.keeps_neg (by omega) e] at hk
    cases hk
  omega

/-- What slices.Sort and slices.Compact make of a list of squares. -/
theorem sort_compact (l : List Int) (P : Nat → Bool) (hr : ∀ x ∈ l, 0 ≤ x ∧ x < 90) (h : ∀ t : Nat, t < 90 → ((t : Int) ∈ l ↔ P t = true)) :
    Lib.compact (l.mergeSort fun x y => decide (x ≤ y)) = ((List.range 90).filter P).map (fun n : Nat => (n : Int)) := by
  apply rising_eq
  · apply compact_rising
    have := List.pairwise_mergeSort (le := fun x y : Int => decide (x ≤ y)) (by intro a b c; simp; omega) (by intro a b; simp; omega) l
    exact this.imp (by intro a b; simp)
  · rw [List.pairwise_map]
    exact (List.pairwise_lt_range.filter _).imp (by intro a b hab; omega)
  · intro x
    rw [compact_mem, List.mem_mergeSort, List.mem_map]
    constructor
    · intro hx
      obtain ⟨h0, h1⟩ := hr x hx
      refine ⟨x.toNat, List.mem_filter.2 ⟨List.mem_range.2 (by omega), (h x.toNat (by omega)).1 ?_⟩, by omega⟩
      rw [show ((x.toNat : Nat) : Int) = x from by omega]; exact hx
    · rintro ⟨t, ht, rfl⟩
      obtain ⟨h1, h2⟩ := List.mem_filter.1 ht
      exact (h t (List.mem_range.1 h1)).2 h2

/-! ### what is met first, second -/
section
variable (e : Nat → Bool)
theorem mem_free : ∀ (R : List Nat) (t : Nat), t ∈ R.takeWhile e ↔ ∃ j, R[j]? = some t ∧ (R.take j).countP (fun x => !e x) = 0 ∧ e t = true
  | [], t => by simp
  | x :: R, t => by
    rw [List.takeWhile_cons]
    cases hx : e x with
    | true =>
      rw [if_pos rfl, List.mem_cons, mem_free R t]
      constructor
      · rintro (rfl | ⟨j, h1, h2, h3⟩)
        · exact ⟨0, by simp, by simp, hx⟩
        · exact ⟨j + 1, by simpa using h1, by simpa [hx] using h2, h3⟩
      · rintro ⟨j, h1, h2, h3⟩
        cases j with
        | zero => left; simpa using h1.symm
        | succ j => right; exact ⟨j, by simpa using h1, by simpa [hx] using h2, h3⟩
    | false =>
      rw [if_neg (by simp)]
      constructor
      · intro h; cases h
      · rintro ⟨j, h1, h2, h3⟩
        cases j with
        | zero => simp at h1; subst h1; rw [hx] at h3; cases h3
        | succ j => simp [hx] at h2
theorem mem_first : ∀ (R : List Nat) (t : Nat), (R.dropWhile e).head? = some t ↔ ∃ j, R[j]? = some t ∧ (R.take j).countP (fun x => !e x) = 0 ∧ e t = false
  | [], t => by simp
  | x :: R, t => by
    rw [List.dropWhile_cons]
    cases hx : e x with
    | true =>
      rw [if_pos rfl, mem_first R t]
      constructor
      · rintro ⟨j, h1, h2, h3⟩
        exact ⟨j + 1, by simpa using h1, by simpa [hx] using h2, h3⟩
      · rintro ⟨j, h1, h2, h3⟩
        cases j with
        | zero => simp at h1; subst h1; rw [hx] at h3; cases h3
        | succ j => exact ⟨j, by simpa using h1, by simpa [hx] using h2, h3⟩
    | false =>
      rw [if_neg (by simp)]
      constructor
      · intro h
        simp at h
        subst h
        exact ⟨0, by simp, by simp, hx⟩
      · rintro ⟨j, h1, h2, h3⟩
        cases j with
        | zero => simpa using h1
        | succ j => simp [hx] at h2
theorem mem_second : ∀ (R : List Nat) (t : Nat), ((R.dropWhile e).tail.dropWhile e).head? = some t ↔ ∃ j, R[j]? = some t ∧ (R.take j).countP (fun x => !e x) = 1 ∧ e t = false
  | [], t => by simp
  | x :: R, t => by
    rw [List.dropWhile_cons]
    cases hx : e x with
    | true =>
      rw [if_pos rfl, mem_second R t]
      constructor
      · rintro ⟨j, h1, h2, h3⟩
        exact ⟨j + 1, by simpa using h1, by simpa [hx] using h2, h3⟩
      · rintro ⟨j, h1, h2, h3⟩
        cases j with
        | zero => simp at h2
        | succ j => exact ⟨j, by simpa using h1, by simpa [hx] using h2, h3⟩
    | false =>
      rw [if_neg (by simp), List.tail_cons, mem_first]
      constructor
      · rintro ⟨j, h1, h2, h3⟩
        exact ⟨j + 1, by simpa using h1, by simp [hx, h2], h3⟩
      · rintro ⟨j, h1, h2, h3⟩
        cases j with
        | zero => simp at h2
        | succ j => exact ⟨j, by simpa using h1, by simpa [hx] using h2, h3⟩
end

/-- The square so many files and ranks on; -1: there is none. -/
def stepN (n : Nat) (df dr : Int) : Int :=
  if 0 ≤ ((n % 9 : Nat) : Int) + df ∧ ((n % 9 : Nat) : Int) + df < 9 ∧ 0 ≤ ((n / 9 : Nat) : Int) + dr ∧ ((n / 9 : Nat) : Int) + dr < 10 then 9 * (((n / 9 : Nat) : Int) + dr) + (((n % 9 : Nat) : Int) + df) else -1
def dirs : List (Int × Int) := [(1, 0), (-1, 0), (0, 1), (0, -1)]
/-- The squares of a way, from the next one on. -/
def rayN (n : Nat) : Int × Int → List Nat := fun w => (((List.range 9).map (fun i : Nat => stepN n (((i : Nat) : Int) * w.1 + w.1) (((i : Nat) : Int) * w.2 + w.2))).takeWhile (fun x => decide (0 ≤ x))).map Int.toNat
end Go.Proofs.YtafmapadkpjliaaGreatDoor.Sp
