/- Walks and plain laws that several statements lean on, joined: no statement of the seat is proved here. -/
import Derived.Deep.Cut
import Derived.Deep.CutRange
import Derived.WalkKit
import Derived.ProofKit
import Derived.Deep.Slices
import Derived.WideShapes
import Derived.ChangeArms
import Derived.DataReads
import Derived.Test.YtafmapadkpjliaaGreatDoorB13
import Derived.Test.YtafmapadkpjliaaGreatDoorB8
import Derived.Test.YtafmapadkpjliaaGreatDoorB7
import Derived.Test.YtafmapadkpjliaaGreatDoorB11
import Derived.Test.YtafmapadkpjliaaGreatDoorB12

/- The reference's quiet: Of, Few. -/
namespace Go.Proofs.YtafmapadkpjliaaGreatDoor.K
open Go.RowKit Go.Lib Go.Proofs.YtafmapadkpjliaaGreatDoorW.PrintWords Go.Proofs.YtafmapadkpjliaaGreatDoor.Sp
set_option linter.unusedVariables false
set_option linter.unusedSimpArgs false
attribute [local go_sem] cel_get   -- for this text's walks alone
set_option maxRecDepth 100000 in
set_option maxHeartbeats 4000000 in
theorem rqof_c (p : Pos) (hmx : p.cells.size ≤ maxLen) (W : World) : Calls Tryz.prog 45 #[posV p] W fun e w' => e = .returned (.int .i64 (ofQ p)) ∧ Below W.heap.size W w' := by
  have HWL := Aside0.mk (fun W' => rwell_c p hmx W')
  have hu := Tryz.underlying23
  have HB0 := Aside0.mk (BoxP.new W p)
  have HL0 := Aside0.mk (below_alloc (Below.refl W.heap.size W) (.cells #[.string p.cells, .int .i64 p.side, .int .i64 p.clock, .int .i64 p.full] 23))
  by_cases hw : wellS p = 0
  · have HR := fun W => rof21_c (nP p.cells) p hw (Nat.le_refl _) W
    unfold Rof21 at HR
    have HR := Aside0.mk HR
    rw [hw] at HWL
    rw [show ofQ p = quietP p from if_pos hw]
    generalize quietP p = r at *
    clear hw hmx
    go_enter Tryz.func45, Tryz.ntmps45
    go_upto_region 1 with fail
    generalize W.alloc (.cells #[.string p.cells, .int .i64 p.side, .int .i64 p.clock, .int .i64 p.full] 23) = W1 at *
    obtain ⟨c0, c1, c2, c3⟩ := HB0.out
    go_wp2_with fail
    refine (HWL.out _).mono ?_
    rintro e w1 ⟨rfl, hb⟩
    have H1 := Aside0.mk (And.intro (HB0.out.below hb) (below_go HL0.out hb))
    clear hb c0 c1 c2 c3
    obtain ⟨c0, c1, c2, c3⟩ := H1.out.1
    go_wp2_with fail
    refine (HR.out _).mono ?_
    rintro e w2 ⟨rfl, hb⟩
    have H2 := Aside0.mk (below_go H1.out.2 hb)
    clear hb
    go_wp2_with fail
    go_ret
    exact ⟨rfl, H2.out⟩
  · rw [show ofQ p = 0 from if_neg hw]
    generalize hx : wellS p = x at *
    have hn : (x != 0) = true := by simpa using hw
    clear hw hx hmx
    go_enter Tryz.func45, Tryz.ntmps45
    go_upto_region 1 with fail
    generalize W.alloc (.cells #[.string p.cells, .int .i64 p.side, .int .i64 p.clock, .int .i64 p.full] 23) = W1 at *
    obtain ⟨c0, c1, c2, c3⟩ := HB0.out
    go_wp2_with fail
    refine (HWL.out _).mono ?_
    rintro e w1 ⟨rfl, hb⟩
    have H1 := Aside0.mk (below_go HL0.out hb)
    clear hb
    go_wp2_with fail
    go_ret
    exact ⟨rfl, H1.out⟩
/-- How many of the first squares are not empty. -/
def cntD (s : ByteArray) (i : Nat) : Nat := ((List.range i).filter (fun j => cel s j != 46)).length
theorem cntD_next (s : ByteArray) (i : Nat) : cntD s (i + 1) = cntD s i + (if cel s i = 46 then 0 else 1) := by
  unfold cntD
  rw [List.range_succ, List.filter_append, List.length_append]
  congr 1
  by_cases h : cel s i = 46 <;> simp [h]
theorem cntD_le (s : ByteArray) (i : Nat) : cntD s i ≤ i := by
  unfold cntD
  exact Nat.le_trans (List.length_filter_le _ _) (by simp)
def Few21 (p : Pos) (most : Int) (W : World) (e : Ending) (w' : World) : Prop := ∃ b : Bool, e = .returned (.bool b) ∧ (b = true → wellS p = 0 → (nP p.cells : Int) ≤ most) ∧ Below W.heap.size W w'
set_option maxRecDepth 100000 in
set_option maxHeartbeats 4000000 in
theorem few21_c (p : Pos) (hmx : p.cells.size ≤ maxLen) (most : Int) (W : World) : Calls Tryz.prog 18 #[posV p, .int .i64 most] W (Few21 p most W) := by
  have hu := Tryz.underlying23
  have HB0 := Aside0.mk (BoxP.new W p)
  have HL0 := Aside0.mk (below_alloc (Below.refl W.heap.size W) (.cells #[.string p.cells, .int .i64 p.side, .int .i64 p.clock, .int .i64 p.full] 23))
  have HN := Aside0.mk (fun (i : Nat) => cntD_next p.cells i)
  have HE := Aside0.mk (fun (i : Nat) (hi : ¬ (i < p.cells.size ∧ p.cells.size ≤ 200)) (h2 : p.cells.size ≤ 200) (hle : i ≤ p.cells.size) (hc : (cntD p.cells i : Int) ≤ most) (hw : wellS p = 0) => show (nP p.cells : Int) ≤ most by
    have hbd := (argOk_yes (checkP_parts (well_check hw)).1).1
    have hsz := board_size hbd
    rw [show i = 90 by omega] at hc
    rw [nP_count hbd]
    exact hc)
  go_enter Tryz.func18, Tryz.ntmps18
  go_upto_region 1 with fail
  generalize W.alloc (.cells #[.string p.cells, .int .i64 p.side, .int .i64 p.clock, .int .i64 p.full] 23) = W1 at *
  obtain ⟨e0, e1, e2, e3⟩ := HB0.out
  go_wp2_with fail
  go_loopg [5, 6] 201 (fun gg s5 s6 wr => ∃ (i : Nat), s5 = .int .i64 (cntD p.cells i : Int) ∧ s6 = .int .i64 (i : Int) ∧ i + gg = 201 ∧ i ≤ p.cells.size ∧ cntD p.cells i ≤ i ∧ wr = W1)
  case atStart => exact ⟨0, rfl, rfl, by omega, by omega, by simp [cntD], rfl⟩
  case round =>
    obtain ⟨i, rfl, rfl, hi, hle, hci, rfl⟩ := hrel
    by_cases hgo : i < p.cells.size ∧ p.cells.size ≤ 200
    · obtain ⟨g, rfl⟩ : ∃ g, gk = g + 1 := ⟨gk - 1, by omega⟩
      have hn1 : (i : Int) < (p.cells.size : Int) := by omega
      have hn2 : (p.cells.size : Int) ≤ 200 := by omega
      have hn3 : i < p.cells.size := hgo.1
      have hib : (i : Int) ≤ 200 := by omega
      have HNi := HN.out i
      have HIN := Aside0.mk (And.intro (show i + 1 + g = 201 by omega) (And.intro (show i + 1 ≤ p.cells.size by omega) (show cntD p.cells (i + 1) ≤ i + 1 from cntD_le _ _)))
      have hcb2 : (cntD p.cells i : Int) ≤ 200 := by omega
      by_cases hc : cel p.cells i = 46
      · have hcb : (((cel p.cells i : Nat) : Int) != 46) = false := by rw [hc]; rfl
        rw [if_pos hc, Nat.add_zero] at HNi
        have HNX := Aside0.mk HNi
        generalize cntD p.cells i = c at *
        clear hgo hi hle hci hc HNi
        go_wp2_with fail
        go_roundg g
        case measure => omega
        case rel => exact ⟨i + 1, by rw [HNX.out]; rfl, by go_num, HIN.out.1, HIN.out.2.1, HIN.out.2.2, rfl⟩
      · have hcb : (((cel p.cells i : Nat) : Int) != 46) = true := by simpa using (show ((cel p.cells i : Nat) : Int) ≠ 46 by omega)
        rw [if_neg hc] at HNi
        have HNX := Aside0.mk HNi
        generalize cntD p.cells i = c at *
        clear hgo hi hle hci hc HNi
        go_wp2_with fail
        go_roundg g
        case measure => omega
        case rel => exact ⟨i + 1, by rw [HNX.out]; go_num, by go_num, HIN.out.1, HIN.out.2.1, HIN.out.2.2, rfl⟩
    · have HED := Aside0.mk (HE.out i hgo)
      have HLE := Aside0.mk hle
      rcases (show (¬ (i : Int) < (p.cells.size : Int) ∧ (p.cells.size : Int) ≤ 200 ∧ (cntD p.cells i : Int) ≤ most) ∨ (¬ (i : Int) < (p.cells.size : Int) ∧ (p.cells.size : Int) ≤ 200 ∧ ¬ (cntD p.cells i : Int) ≤ most) ∨ (¬ (i : Int) < (p.cells.size : Int) ∧ ¬ (p.cells.size : Int) ≤ 200) ∨ ((i : Int) < (p.cells.size : Int) ∧ ¬ (p.cells.size : Int) ≤ 200) by omega) with ⟨h1, h2, h3⟩ | ⟨h1, h2, h3⟩ | ⟨h1, h2⟩ | ⟨h1, h2⟩
      · clear hgo hi hle hci
        go_wp2_with fail
        go_ret
        exact ⟨true, rfl, fun _ hw => HED.out (by omega) HLE.out h3 hw, HL0.out⟩
      all_goals
        clear hgo hi hle hci
        go_wp2_with fail
        go_ret
        exact ⟨false, rfl, (fun h => by cases h), HL0.out⟩
end Go.Proofs.YtafmapadkpjliaaGreatDoor.K

/- Walks: the reference's Apply, where it makes nothing. -/
namespace Go.Proofs.YtafmapadkpjliaaGreatDoor.K
open Go.RowKit Go.Lib Go.Proofs.YtafmapadkpjliaaGreatDoorW.PrintWords Go.Proofs.YtafmapadkpjliaaGreatDoor.Sp
set_option linter.unusedVariables false
set_option linter.unusedSimpArgs false
attribute [local go_sem] cel_get   -- for this text's walks alone
/-! ### Apply -/
theorem gtr89 (x : Int) : decide (89 < x) = !decide (x < 90) := by
  by_cases h : x < 90
  · rw [decide_eq_true h, decide_eq_false (by omega)]; rfl
  · rw [decide_eq_false h, decide_eq_true (by omega)]; rfl
set_option maxRecDepth 100000 in
set_option maxHeartbeats 4000000 in
theorem rapply_no (p : Pos) (hmx : p.cells.size ≤ maxLen) (m : Mvi) (w : World) (hck : checkP p ≠ 0) : Calls Tryz.prog 27 #[posV p, mviV m] w (ApplyIs w p m) := by
  have HCK := Aside0.mk (fun W => rcheck_c p hmx W)
  have hu := Tryz.underlying23
  have hu2 := Tryz.underlying36
  have HR := Aside0.mk (show applyP p m = (zeroP, 0, checkP p) by unfold applyP; rw [if_pos hck])
  have h2 : (checkP p != 0) = true := by simpa using hck
  clear hck hmx
  generalize checkP p = ck at *
  go_enter Tryz.func27, Tryz.ntmps27
  go_wp2_with fail
  refine (HCK.out _).mono ?_
  rintro e w1 ⟨rfl, hb⟩
  have HA := Aside0.mk ((apat_new w p m).below hb)
  clear hb
  have fr := HA.out.fr
  have r0 := HA.out.r0
  have r1 := HA.out.r1
  have r2 := HA.out.r2
  have r3 := HA.out.r3
  go_wp2_with fail
  refine bodyPost_ret (by simp [results, Tryz.results27, go_sem, r0, r1, r2, r3]; try rfl) rfl ?_
  exact ⟨by rw [HR.out]; rfl, by (repeat' (first | (with_reducible exact Below.refl _ _) | (with_reducible refine pw_below_drewN ?_ _) | (with_reducible refine below_alloc ?_ _) | (with_reducible refine Below.drew ?_) | (with_reducible refine Below.setCell ?_ ?_ _) | (simp; done))) <;> first | exact HA.out.bel | (simp; done) | (simp; omega)⟩
set_option maxRecDepth 100000 in
set_option maxHeartbeats 4000000 in
theorem rapply_bad (p : Pos) (m : Mvi) (w : World) (hck : checkP p = 0) (hg : ¬ okR p m) : Calls Tryz.prog 27 #[posV p, mviV m] w (ApplyIs w p m) := by
  obtain ⟨hbd, hsd, _⟩ := argOk_yes (checkP_board hck)
  have hsz := board_size hbd
  have HCK := Aside0.mk (fun W => rcheck_c p (by rw [hsz]; unfold maxLen; omega) W)
  rw [hck] at HCK
  have hu := Tryz.underlying23
  have hu2 := Tryz.underlying36
  have hgf : goodM p m = false := by
    cases h : goodM p m
    · rfl
    · exact absurd ((ok_good hck).1 h) hg
  have HR := Aside0.mk (show applyP p m = (zeroP, 0, 7) by unfold applyP; rw [if_neg (by simpa using hck), if_pos hgf])
  have HNO := Aside0.mk hg
  have HSZ := Aside0.mk hsz
  have HBD := Aside0.mk hbd
  clear hck hg hgf hbd hsd hsz
  obtain ⟨m1, m2⟩ := m
  have HQ := Aside0.mk (fun (n : Nat) W => rside_c (cel p.cells n) (cel_lt _ _) W)
  have HKQ := Aside0.mk (fun (n : Nat) W => rkind_c (cel p.cells n) (cel_lt _ _) W)
  have HFQ := Aside0.mk (fun (a b : Nat) ha hb W => rfast_c p.cells HBD.out a b ha hb W)
  by_cases g1 : m1 < 0
  · clear HNO
    go_enter Tryz.func27, Tryz.ntmps27
    go_wp2_with fail
    refine (HCK.out _).mono ?_
    rintro e w1 ⟨rfl, hb⟩
    have HA := Aside0.mk ((apat_new w p ⟨m1, m2⟩).below hb)
    clear hb
    have d0 := HA.out.d0
    have d1 := HA.out.d1
    have c0 := HA.out.c0
    have c1 := HA.out.c1
    go_wp2_with fail
    go_quiet (fail)
    have HA1 := Aside0.mk (HA.out.below (pw_below_drewN (Below.refl _ _) nq))
    have fr := HA1.out.fr
    have r0 := HA1.out.r0
    have r1 := HA1.out.r1
    have r2 := HA1.out.r2
    have r3 := HA1.out.r3
    generalize w1.drewN nq = w5 at *
    go_wp2_with fail
    refine bodyPost_ret (by simp [results, Tryz.results27, go_sem, r0, r1, r2, r3]; try rfl) rfl ?_
    exact ⟨by rw [HR.out]; rfl, by (repeat' (first | (with_reducible exact Below.refl _ _) | (with_reducible refine pw_below_drewN ?_ _) | (with_reducible refine below_alloc ?_ _) | (with_reducible refine Below.drew ?_) | (with_reducible refine Below.setCell ?_ ?_ _) | (simp; done))) <;> first | exact HA1.out.bel | (simp; done) | (simp; omega)⟩
  have k1 : decide (m1 < 0) = false := decide_eq_false g1
  by_cases g2 : 89 < m1
  · clear HNO g1
    go_enter Tryz.func27, Tryz.ntmps27
    go_wp2_with fail
    refine (HCK.out _).mono ?_
    rintro e w1 ⟨rfl, hb⟩
    have HA := Aside0.mk ((apat_new w p ⟨m1, m2⟩).below hb)
    clear hb
    have d0 := HA.out.d0
    have d1 := HA.out.d1
    have c0 := HA.out.c0
    have c1 := HA.out.c1
    go_wp2_with fail
    go_quiet (fail)
    have HA1 := Aside0.mk (HA.out.below (pw_below_drewN (Below.refl _ _) nq))
    have fr := HA1.out.fr
    have r0 := HA1.out.r0
    have r1 := HA1.out.r1
    have r2 := HA1.out.r2
    have r3 := HA1.out.r3
    generalize w1.drewN nq = w5 at *
    go_wp2_with fail
    refine bodyPost_ret (by simp [results, Tryz.results27, go_sem, r0, r1, r2, r3]; try rfl) rfl ?_
    exact ⟨by rw [HR.out]; rfl, by (repeat' (first | (with_reducible exact Below.refl _ _) | (with_reducible refine pw_below_drewN ?_ _) | (with_reducible refine below_alloc ?_ _) | (with_reducible refine Below.drew ?_) | (with_reducible refine Below.setCell ?_ ?_ _) | (simp; done))) <;> first | exact HA1.out.bel | (simp; done) | (simp; omega)⟩
  have k2 : decide (89 < m1) = false := decide_eq_false g2
  by_cases g3 : m2 < 0
  · clear HNO g1 g2
    go_enter Tryz.func27, Tryz.ntmps27
    go_wp2_with fail
    refine (HCK.out _).mono ?_
    rintro e w1 ⟨rfl, hb⟩
    have HA := Aside0.mk ((apat_new w p ⟨m1, m2⟩).below hb)
    clear hb
    have d0 := HA.out.d0
    have d1 := HA.out.d1
    have c0 := HA.out.c0
    have c1 := HA.out.c1
    go_wp2_with fail
    go_quiet (fail)
    have HA1 := Aside0.mk (HA.out.below (pw_below_drewN (Below.refl _ _) nq))
    have fr := HA1.out.fr
    have r0 := HA1.out.r0
    have r1 := HA1.out.r1
    have r2 := HA1.out.r2
    have r3 := HA1.out.r3
    generalize w1.drewN nq = w5 at *
    go_wp2_with fail
    refine bodyPost_ret (by simp [results, Tryz.results27, go_sem, r0, r1, r2, r3]; try rfl) rfl ?_
    exact ⟨by rw [HR.out]; rfl, by (repeat' (first | (with_reducible exact Below.refl _ _) | (with_reducible refine pw_below_drewN ?_ _) | (with_reducible refine below_alloc ?_ _) | (with_reducible refine Below.drew ?_) | (with_reducible refine Below.setCell ?_ ?_ _) | (simp; done))) <;> first | exact HA1.out.bel | (simp; done) | (simp; omega)⟩
  have k3 : decide (m2 < 0) = false := decide_eq_false g3
  by_cases g4 : 89 < m2
  · clear HNO g1 g2 g3
    go_enter Tryz.func27, Tryz.ntmps27
    go_wp2_with fail
    refine (HCK.out _).mono ?_
    rintro e w1 ⟨rfl, hb⟩
    have HA := Aside0.mk ((apat_new w p ⟨m1, m2⟩).below hb)
    clear hb
    have d0 := HA.out.d0
    have d1 := HA.out.d1
    have c0 := HA.out.c0
    have c1 := HA.out.c1
    go_wp2_with fail
    go_quiet (fail)
    have HA1 := Aside0.mk (HA.out.below (pw_below_drewN (Below.refl _ _) nq))
    have fr := HA1.out.fr
    have r0 := HA1.out.r0
    have r1 := HA1.out.r1
    have r2 := HA1.out.r2
    have r3 := HA1.out.r3
    generalize w1.drewN nq = w5 at *
    go_wp2_with fail
    refine bodyPost_ret (by simp [results, Tryz.results27, go_sem, r0, r1, r2, r3]; try rfl) rfl ?_
    exact ⟨by rw [HR.out]; rfl, by (repeat' (first | (with_reducible exact Below.refl _ _) | (with_reducible refine pw_below_drewN ?_ _) | (with_reducible refine below_alloc ?_ _) | (with_reducible refine Below.drew ?_) | (with_reducible refine Below.setCell ?_ ?_ _) | (simp; done))) <;> first | exact HA1.out.bel | (simp; done) | (simp; omega)⟩
  have k4 : decide (89 < m2) = false := decide_eq_false g4
  obtain ⟨a, rfl⟩ : ∃ a : Nat, m1 = a := ⟨m1.toNat, by omega⟩
  obtain ⟨b, rfl⟩ : ∃ b : Nat, m2 = b := ⟨m2.toNat, by omega⟩
  have ha : (a : Int) < (p.cells.size : Int) := by rw [HSZ.out]; omega
  have hb1 : (b : Int) < (p.cells.size : Int) := by rw [HSZ.out]; omega
  have HS1 := Aside0.mk (HQ.out a)
  have HK1 := Aside0.mk (HKQ.out b)
  have HF1 := Aside0.mk (HFQ.out a b (by omega) (by omega))
  have hno := HNO.out
  unfold okR at hno
  simp only [Int.toNat_natCast] at hno
  have q1 : ((kindN (cel p.cells b) : Int) == 75) = (kindN (cel p.cells b) == 75) := by rw [Bool.eq_iff_iff, beq_iff_eq, beq_iff_eq]; omega
  generalize hsd : sideN (cel p.cells a) = sd at *
  generalize hkd : kindN (cel p.cells b) = kd at *
  generalize fastN (cel p.cells) a b = ff at *
  clear HQ HKQ HFQ HNO hsd hkd
  cases h1 : (sd != p.side)
  case true =>
    clear g1 g2 g3 g4 hno q1
    go_enter Tryz.func27, Tryz.ntmps27
    go_wp2_with fail
    refine (HCK.out _).mono ?_
    rintro e w1 ⟨rfl, hb⟩
    have HA := Aside0.mk ((apat_new w p ⟨(a : Int), (b : Int)⟩).below hb)
    clear hb
    have d0 := HA.out.d0
    have d1 := HA.out.d1
    have c0 := HA.out.c0
    have c1 := HA.out.c1
    go_wp2_with fail
    go_quiet (first | (go_at_call 46; exact Calls.quiet_of_same (HS1.out _)))
    have HA1 := Aside0.mk (HA.out.below (pw_below_drewN (Below.refl _ _) nq))
    have fr := HA1.out.fr
    have r0 := HA1.out.r0
    have r1 := HA1.out.r1
    have r2 := HA1.out.r2
    have r3 := HA1.out.r3
    generalize w1.drewN nq = w5 at *
    go_wp2_with fail
    refine bodyPost_ret (by simp [results, Tryz.results27, go_sem, r0, r1, r2, r3]; try rfl) rfl ?_
    exact ⟨by rw [HR.out]; rfl, by (repeat' (first | (with_reducible exact Below.refl _ _) | (with_reducible refine pw_below_drewN ?_ _) | (with_reducible refine below_alloc ?_ _) | (with_reducible refine Below.drew ?_) | (with_reducible refine Below.setCell ?_ ?_ _) | (simp; done))) <;> first | exact HA1.out.bel | (simp; done) | (simp; omega)⟩
  case false =>
  cases ff
  case false =>
    clear g1 g2 g3 g4 hno q1
    go_enter Tryz.func27, Tryz.ntmps27
    go_wp2_with fail
    refine (HCK.out _).mono ?_
    rintro e w1 ⟨rfl, hb⟩
    have HA := Aside0.mk ((apat_new w p ⟨(a : Int), (b : Int)⟩).below hb)
    clear hb
    have d0 := HA.out.d0
    have d1 := HA.out.d1
    have c0 := HA.out.c0
    have c1 := HA.out.c1
    go_wp2_with fail
    go_quiet (first | (go_at_call 46; exact Calls.quiet_of_same (HS1.out _)) | (go_at_call 47; exact Calls.quiet_of_same (HF1.out _)))
    have HA1 := Aside0.mk (HA.out.below (pw_below_drewN (Below.refl _ _) nq))
    have fr := HA1.out.fr
    have r0 := HA1.out.r0
    have r1 := HA1.out.r1
    have r2 := HA1.out.r2
    have r3 := HA1.out.r3
    generalize w1.drewN nq = w5 at *
    go_wp2_with fail
    refine bodyPost_ret (by simp [results, Tryz.results27, go_sem, r0, r1, r2, r3]; try rfl) rfl ?_
    exact ⟨by rw [HR.out]; rfl, by (repeat' (first | (with_reducible exact Below.refl _ _) | (with_reducible refine pw_below_drewN ?_ _) | (with_reducible refine below_alloc ?_ _) | (with_reducible refine Below.drew ?_) | (with_reducible refine Below.setCell ?_ ?_ _) | (simp; done))) <;> first | exact HA1.out.bel | (simp; done) | (simp; omega)⟩
  case true =>
    have hk : kd = 75 := by
      by_cases h : kd = 75
      · exact h
      · exact absurd ⟨⟨by omega, by omega⟩, ⟨by omega, by omega⟩, by simpa using h1, rfl, h⟩ hno
    subst hk
    clear g1 g2 g3 g4 hno q1
    go_enter Tryz.func27, Tryz.ntmps27
    go_wp2_with fail
    refine (HCK.out _).mono ?_
    rintro e w1 ⟨rfl, hb⟩
    have HA := Aside0.mk ((apat_new w p ⟨(a : Int), (b : Int)⟩).below hb)
    clear hb
    have d0 := HA.out.d0
    have d1 := HA.out.d1
    have c0 := HA.out.c0
    have c1 := HA.out.c1
    go_wp2_with fail
    go_quiet (first | (go_at_call 46; exact Calls.quiet_of_same (HS1.out _)) | (go_at_call 47; exact Calls.quiet_of_same (HF1.out _)) | (go_at_call 48; exact Calls.quiet_of_same (HK1.out _)))
    have HA1 := Aside0.mk (HA.out.below (pw_below_drewN (Below.refl _ _) nq))
    have fr := HA1.out.fr
    have r0 := HA1.out.r0
    have r1 := HA1.out.r1
    have r2 := HA1.out.r2
    have r3 := HA1.out.r3
    generalize w1.drewN nq = w5 at *
    go_wp2_with fail
    refine bodyPost_ret (by simp [results, Tryz.results27, go_sem, r0, r1, r2, r3]; try rfl) rfl ?_
    exact ⟨by rw [HR.out]; rfl, by (repeat' (first | (with_reducible exact Below.refl _ _) | (with_reducible refine pw_below_drewN ?_ _) | (with_reducible refine below_alloc ?_ _) | (with_reducible refine Below.drew ?_) | (with_reducible refine Below.setCell ?_ ?_ _) | (simp; done))) <;> first | exact HA1.out.bel | (simp; done) | (simp; omega)⟩
end Go.Proofs.YtafmapadkpjliaaGreatDoor.K

/- Walks: the reference's Apply; PseudoApplies. -/
namespace Go.Proofs.YtafmapadkpjliaaGreatDoor.K
open Go.RowKit Go.Lib Go.Proofs.YtafmapadkpjliaaGreatDoorW.PrintWords Go.Proofs.YtafmapadkpjliaaGreatDoor.Sp
set_option linter.unusedVariables false
set_option linter.unusedSimpArgs false
attribute [local go_sem] cel_get   -- for this text's walks alone
/-- The new position's box beside the others. -/
structure QbAt (w0 W : World) (p : Pos) (m : Mvi) (q : Pos) (qb : Nat) : Prop where
  ap : ApAt w0 W p m
  box : BoxP W qb q
  fz : ∀ k, W.frozen? ⟨qb, k, none⟩ = false
  lt : w0.heap.size + 2 < qb
theorem QbAt.mk1 {w0 W : World} {p : Pos} {m : Mvi} (h : ApAt w0 W p m) (q : Pos) : QbAt w0 (W.alloc (.cells #[.string q.cells, .int .i64 q.side, .int .i64 q.clock, .int .i64 q.full] 23)) p m q W.heap.size :=
  ⟨h.below (below_alloc (Below.refl _ _) _), BoxP.new W q, fun k => World.frozen?_alloc_at _ _ _ k rfl, h.lt⟩
theorem QbAt.mk2 {w0 W : World} {p : Pos} {m : Mvi} {qb : Nat} (h : ApAt w0 W p m) (hl : w0.heap.size + 2 < qb) (z0 : W.cell? ⟨qb, 0, none⟩ = some (.string { data := #[] })) (z1 : W.cell? ⟨qb, 1, none⟩ = some (.int .i64 0)) (z2 : W.cell? ⟨qb, 2, none⟩ = some (.int .i64 0)) (z3 : W.cell? ⟨qb, 3, none⟩ = some (.int .i64 0)) (zf : ∀ k, W.frozen? ⟨qb, k, none⟩ = false) (q : Pos) :
    QbAt w0 ((((W.setCell ⟨qb, 0, none⟩ (.string q.cells)).setCell ⟨qb, 1, none⟩ (.int .i64 q.side)).setCell ⟨qb, 2, none⟩ (.int .i64 q.clock)).setCell ⟨qb, 3, none⟩ (.int .i64 q.full)) p m q qb :=
  ⟨h.upto (n := qb) hl (Below.setCell (p := ⟨qb, 3, none⟩) (Below.setCell (p := ⟨qb, 2, none⟩) (Below.setCell (p := ⟨qb, 1, none⟩) (Below.setCell (p := ⟨qb, 0, none⟩) (Below.refl _ _) (Nat.le_refl _) _) (Nat.le_refl _) _) (Nat.le_refl _) _) (Nat.le_refl _) _), ⟨by simp [go_sem, z0, z1, z2, z3], by simp [go_sem, z0, z1, z2, z3], by simp [go_sem, z0, z1, z2, z3], by simp [go_sem, z0, z1, z2, z3]⟩, fun k => by simp [go_sem, zf], hl⟩
/-- A new position's box behind a call. -/
theorem qz_new (W W' : World) (hb : Below (W.alloc (.cells #[.string { data := #[] }, .int .i64 0, .int .i64 0, .int .i64 0] 23)).heap.size (W.alloc (.cells #[.string { data := #[] }, .int .i64 0, .int .i64 0, .int .i64 0] 23)) W') :
    W'.cell? ⟨W.heap.size, 0, none⟩ = some (.string { data := #[] }) ∧ W'.cell? ⟨W.heap.size, 1, none⟩ = some (.int .i64 0) ∧ W'.cell? ⟨W.heap.size, 2, none⟩ = some (.int .i64 0) ∧ W'.cell? ⟨W.heap.size, 3, none⟩ = some (.int .i64 0) ∧ ∀ k, W'.frozen? ⟨W.heap.size, k, none⟩ = false := by
  have hl : W.heap.size < (W.alloc (.cells #[.string { data := #[] }, .int .i64 0, .int .i64 0, .int .i64 0] 23)).heap.size := by simp
  exact ⟨(hb.cell (p := ⟨W.heap.size, 0, none⟩) hl).trans (by simp [World.cell?_alloc_at]), (hb.cell (p := ⟨W.heap.size, 1, none⟩) hl).trans (by simp [World.cell?_alloc_at]), (hb.cell (p := ⟨W.heap.size, 2, none⟩) hl).trans (by simp [World.cell?_alloc_at]), (hb.cell (p := ⟨W.heap.size, 3, none⟩) hl).trans (by simp [World.cell?_alloc_at]), fun k => (hb.frozen (p := ⟨W.heap.size, k, none⟩) hl).trans (World.frozen?_alloc_at _ _ _ k rfl)⟩
set_option maxRecDepth 100000 in
set_option maxHeartbeats 4000000 in
theorem rapply_ok (p : Pos) (m : Mvi) (w : World) (hck : checkP p = 0) (hg : okR p m) : Calls Tryz.prog 27 #[posV p, mviV m] w (ApplyIs w p m) := by
  obtain ⟨hbd, hsd0, q1, q2, q3, q4⟩ := argOk_yes (checkP_board hck)
  have hsz := board_size hbd
  have HCK := Aside0.mk (fun W => rcheck_c p (by rw [hsz]; unfold maxLen; omega) W)
  rw [hck] at HCK
  have hu := Tryz.underlying23
  have hu2 := Tryz.underlying36
  have hgt := (ok_good hck).2 hg
  obtain ⟨m1, m2⟩ := m
  obtain ⟨⟨f0, f1⟩, ⟨g0, g1⟩, h1, h2, h3⟩ := hg
  simp only at f0 f1 g0 g1 h1 h2 h3
  obtain ⟨a, rfl⟩ : ∃ a : Nat, m1 = a := ⟨m1.toNat, by omega⟩
  obtain ⟨b, rfl⟩ : ∃ b : Nat, m2 = b := ⟨m2.toNat, by omega⟩
  simp only [Int.toNat_natCast] at h1 h2 h3
  have hatb : atS p.cells (b : Int) = cel p.cells b := by unfold atS; rw [if_pos ⟨hbd, g0, g1⟩]; rfl
  have HR := Aside0.mk (show applyP p ⟨a, b⟩ = (⟨movedB p.cells a b, 1 - p.side, if cel p.cells b = 46 then min (p.clock + 1) 120 else 0, if p.side = 1 then min (p.full + 1) 9999 else p.full⟩, if cel p.cells b = 46 then 0 else cel p.cells b, 0) by
    unfold applyP
    rw [if_neg (by simpa using hck), if_neg (by rw [hgt]; simp)]
    simp only
    rw [hatb]
    rfl)
  have HMV := Aside0.mk (fun W => rmoved_c p.cells hsz a b (by omega) (by omega) W)
  have HS1 := Aside0.mk (fun W => rside_c (cel p.cells a) (cel_lt _ _) W)
  have HK1 := Aside0.mk (fun W => rkind_c (cel p.cells b) (cel_lt _ _) W)
  have HF1 := Aside0.mk (fun W => rfast_c p.cells hbd a b (by omega) (by omega) W)
  rw [h1] at HS1
  rw [h2] at HF1
  have k1 : decide ((a : Int) < 0) = false := decide_eq_false (by omega)
  have k2 : decide (89 < (a : Int)) = false := decide_eq_false (by omega)
  have k3 : decide ((b : Int) < 0) = false := decide_eq_false (by omega)
  have k4 : decide (89 < (b : Int)) = false := decide_eq_false (by omega)
  have ha : (a : Int) < (p.cells.size : Int) := by rw [hsz]; omega
  have hb1 : (b : Int) < (p.cells.size : Int) := by rw [hsz]; omega
  have hk75 : ((kindN (cel p.cells b) : Int) == 75) = false := by rw [beq_eq_false_iff_ne]; omega
  have hs0 : 0 ≤ p.side := by omega
  have hs1 : p.side ≤ 1 := by omega
  have HY := Aside0.mk (bne46 (cel p.cells b))
  have hyl := cel_lt p.cells b
  generalize kindN (cel p.cells b) = kd at *
  generalize movedB p.cells a b = mb at *
  generalize hyy : cel p.cells b = y at *
  have e1 : wrap64 (1 - p.side) = 1 - p.side := by unfold wrap64; omega
  have e2 : IntKind.i64.wrap (1 - p.side) = 1 - p.side := by rw [IntKind.wrap_i64]; omega
  have e3 : wrap64 (p.clock + 1) = p.clock + 1 := by unfold wrap64; omega
  have e4 : IntKind.i64.wrap (p.clock + 1) = p.clock + 1 := by rw [IntKind.wrap_i64]; omega
  have hc1 : p.clock ≤ 120 := q2
  clear hck hgt h1 h2 h3 hatb hbd hsz hsd0 f0 f1 g0 g1
  go_enter Tryz.func27, Tryz.ntmps27
  go_wp2_with fail
  refine (HCK.out _).mono ?_
  rintro e w1 ⟨rfl, hb⟩
  have HA := Aside0.mk ((apat_new w p ⟨(a : Int), (b : Int)⟩).below hb)
  clear hb
  have d0 := HA.out.d0
  have d1 := HA.out.d1
  have c0 := HA.out.c0
  have c1 := HA.out.c1
  go_wp2_with fail
  go_quiet (first | (go_at_call 46; exact Calls.quiet_of_same (HS1.out _)) | (go_at_call 47; exact Calls.quiet_of_same (HF1.out _)) | (go_at_call 48; exact Calls.quiet_of_same (HK1.out _)))
  have HA1 := Aside0.mk (HA.out.below (pw_below_drewN (Below.refl _ _) nq))
  clear HA d0 d1 c0 c1 k1 k2 k3 k4 hk75
  generalize w1.drewN nq = w5 at *
  have c0 := HA1.out.c0
  have c1 := HA1.out.c1
  have c2 := HA1.out.c2
  have c3 := HA1.out.c3
  have d0 := HA1.out.d0
  have d1 := HA1.out.d1
  go_upto_region 6 with fail
  have HA2 := Aside0.mk HA1.out.drew
  clear HA1
  go_cut [8] from 65 to 78 (fun s8 wx => ∃ qb : Nat, s8 = .pointer (some ⟨qb, 0, none⟩) ∧ Aside0 (QbAt w wx p ⟨(a : Int), (b : Int)⟩ ⟨mb, 1 - p.side, min (p.clock + 1) 120, p.full⟩ qb))
  case first =>
    go_region_held3 (fun W => W.cell? ⟨w.heap.size, 0, none⟩ = some (.string p.cells) ∧ W.cell? ⟨w.heap.size, 1, none⟩ = some (.int .i64 p.side) ∧ W.cell? ⟨w.heap.size, 2, none⟩ = some (.int .i64 p.clock) ∧ W.cell? ⟨w.heap.size, 3, none⟩ = some (.int .i64 p.full) ∧ W.cell? ⟨w.heap.size + 1, 0, none⟩ = some (.int .i64 (a : Int)) ∧ W.cell? ⟨w.heap.size + 1, 1, none⟩ = some (.int .i64 (b : Int))) (go_keep)
        (first
          | (go_at_call 49; (with_reducible refine (HMV.out w5.drew).mono ?_); rintro e w6 ⟨rfl, hb⟩; have HA3 := Aside0.mk (HA2.out.below hb); clear HA2 hb c0 c1 c2 c3 d0 d1; have c0 := HA3.out.c0; have c1 := HA3.out.c1; have c2 := HA3.out.c2; have c3 := HA3.out.c3; have d0 := HA3.out.d0; have d1 := HA3.out.d1; have n0 : w6.heap.size ≠ w.heap.size := World.new_ne w6 _ c0; have n1 : w6.heap.size ≠ w.heap.size + 1 := World.new_ne w6 _ d0)
          | (go_at_call 49; (with_reducible refine (HMV.out _).mono ?_); rintro e w6 ⟨rfl, hb⟩; have HZ := Aside0.mk (qz_new w5.drew w6 hb); have HL5 := Aside0.mk (show w.heap.size + 2 < w5.heap.size from HA2.out.lt); have HA3 := Aside0.mk ((HA2.out.below (below_alloc (Below.refl _ _) _)).below hb); have n0 : w5.heap.size ≠ w.heap.size := World.new_ne w5 _ c0; have n1 : w5.heap.size ≠ w.heap.size + 1 := World.new_ne w5 _ d0; clear HA2 hb c0 c1 c2 c3 d0 d1; have c0 := HA3.out.c0; have c1 := HA3.out.c1; have c2 := HA3.out.c2; have c3 := HA3.out.c3; have d0 := HA3.out.d0; have d1 := HA3.out.d1; have z0 : w6.cell? ⟨w5.heap.size, 0, none⟩ = some (.string { data := #[] }) := HZ.out.1; have z1 : w6.cell? ⟨w5.heap.size, 1, none⟩ = some (.int .i64 0) := HZ.out.2.1; have z2 : w6.cell? ⟨w5.heap.size, 2, none⟩ = some (.int .i64 0) := HZ.out.2.2.1; have z3 : w6.cell? ⟨w5.heap.size, 3, none⟩ = some (.int .i64 0) := HZ.out.2.2.2.1; have zf : ∀ k, w6.frozen? ⟨w5.heap.size, k, none⟩ = false := HZ.out.2.2.2.2))
    all_goals
      go_wp2_with fail
      go_meet
      first
      | exact ⟨_, rfl, ⟨QbAt.mk1 HA3.out ⟨mb, 1 - p.side, min (p.clock + 1) 120, p.full⟩⟩⟩
      | exact ⟨_, rfl, ⟨QbAt.mk2 HA3.out HL5.out z0 z1 z2 z3 zf ⟨mb, 1 - p.side, min (p.clock + 1) 120, p.full⟩⟩⟩
  case rest =>
  obtain ⟨qb, rfl, HQ⟩ := hcut
  clear c0 c1 c2 c3 d0 d1 HA2 HCK HS1 HF1 HK1 HMV e1 e2 e3 e4 hu2
  obtain ⟨HAP, ⟨b0, b1, b2, b3⟩, fq, hqb⟩ := HQ.out
  have HAP := Aside0.mk HAP
  have m1 : qb ≠ w.heap.size := by omega
  have m2 : qb ≠ w.heap.size + 1 := by omega
  have m3 : qb ≠ w.heap.size + 1 + 1 := by omega
  have HQB := Aside0.mk hqb
  have c0 := HAP.out.c0
  have c1 := HAP.out.c1
  have d1 := HAP.out.d1
  have r0 := HAP.out.r0
  have r1 := HAP.out.r1
  have r2 := HAP.out.r2
  have r3 := HAP.out.r3
  have fr := HAP.out.fr
  have hy := HY.out
  clear HQ hqb
  cases hz : (y != 46)
  all_goals
    rw [hz] at hy
    have HY46 := Aside0.mk hz
    clear hz
    cases hs : (p.side == 1)
    all_goals
      have HS1 := Aside0.mk hs
      go_wp2_with fail
      refine bodyPost_ret (by simp [results, Tryz.results27, go_sem, r0, r1, r2, r3, m1, m2, m3, Ne.symm m3]; try rfl) rfl ?_
      have hle := HQB.out
      refine ⟨?_, by (repeat' (first | (with_reducible exact Below.refl _ _) | (with_reducible refine pw_below_drewN ?_ _) | (with_reducible refine below_alloc ?_ _) | (with_reducible refine Below.drew ?_) | (with_reducible refine Below.setCell ?_ ?_ _) | (simp; done))) <;> first | exact HAP.out.bel | (simp; done) | (simp; omega)⟩
      rw [HR.out]
      have y1 := HY46.out
      have s1 := HS1.out
      simp only [bne_iff_ne, ne_eq, bne_eq_false_iff_eq, beq_iff_eq, beq_eq_false_iff_ne] at y1 s1
      simp [y1, s1]
theorem rapply_c (p : Pos) (hmx : p.cells.size ≤ maxLen) (m : Mvi) (w : World) : Calls Tryz.prog 27 #[posV p, mviV m] w (ApplyIs w p m) := by
  by_cases h1 : checkP p = 0
  · by_cases h2 : okR p m
    · exact rapply_ok p m w h1 h2
    · exact rapply_bad p m w h1 h2
  · exact rapply_no p hmx m w h1
end Go.Proofs.YtafmapadkpjliaaGreatDoor.K

/- search's reference: worth. -/
namespace Go.Proofs.YtafmapadkpjliaaGreatDoor.K
open Go.RowKit Go.Lib Go.Proofs.YtafmapadkpjliaaGreatDoorW.PrintWords Go.Proofs.YtafmapadkpjliaaGreatDoorW.PrintLast Go.Proofs.YtafmapadkpjliaaGreatDoorW.PrintMore Go.Proofs.YtafmapadkpjliaaGreatDoor.Sp
set_option linter.unusedVariables false
set_option linter.unusedSimpArgs false
/-- What the reference's worth owes. -/
def RwC (d : Nat) : Prop := ∀ (p : Pos) (k : Nat) (W : World), wellS p = 0 → k + d ≤ 100 →
  Calls Tryz.prog 24 #[posV p, .int .i64 (d : Int), .int .i64 (k : Int)] W fun e w' => e = .returned (.int .i64 (worthS d p.cells p.side p.clock k)) ∧ Below W.heap.size W w'
section
variable (p : Pos) (d k : Nat) (W : World)
set_option maxRecDepth 100000 in
set_option maxHeartbeats 4000000 in
theorem rw_none (D : Int) (hw : wellS p = 0) (hk : k + d ≤ 100) (hno : legalR p.cells p.side = []) :
    Calls Tryz.prog 24 #[posV p, .int .i64 D, .int .i64 (k : Int)] W fun e w' => e = .returned (.int .i64 (worthS d p.cells p.side p.clock k)) ∧ Below W.heap.size W w' := by
  obtain ⟨hbd, hsd, _⟩ := argOk_yes (checkP_parts (well_check hw)).1
  have HOF := Aside0.mk (fun W => rof8_c p.cells hbd p.side W)
  rw [hno] at HOF
  rw [worth_none p d k hno]
  have HS := Aside0.mk (LmAt.new W p)
  have hkb : (k : Int) ≤ 100 := by omega
  have hu := Tryz.underlying23
  clear hw hk hno hbd hsd
  go_enter Tryz.func24, Tryz.ntmps24
  go_upto_region 1 with fail
  generalize W.alloc (.cells #[.string p.cells, .int .i64 p.side, .int .i64 p.clock, .int .i64 p.full] 23) = W1 at *
  obtain ⟨c0, c1, c2, c3⟩ := HS.out.box
  go_wp2_with fail
  refine (HOF.out _).mono ?_
  rintro e w1 ⟨v, rfl, ho, hb⟩
  obtain ⟨A, cp, hv⟩ := ho.reads.form
  have hv2 : v = .slice A 0 cp := hv
  clear hv
  subst hv2
  have H1 := Aside0.mk (HS.out.below hb)
  clear ho hb c0 c1 c2 c3
  go_wp2_with fail
  go_ret
  exact ⟨rfl, H1.out.bel⟩
set_option maxRecDepth 100000 in
set_option maxHeartbeats 4000000 in
theorem rw_clock (D : Int) (hw : wellS p = 0) (hk : k + d ≤ 100) (hno : legalR p.cells p.side ≠ []) (hc : p.clock = 120) (hk0 : 0 < k) :
    Calls Tryz.prog 24 #[posV p, .int .i64 D, .int .i64 (k : Int)] W fun e w' => e = .returned (.int .i64 (worthS d p.cells p.side p.clock k)) ∧ Below W.heap.size W w' := by
  obtain ⟨hbd, hsd, _⟩ := argOk_yes (checkP_parts (well_check hw)).1
  have HOF := Aside0.mk (fun W => rof8_c p.cells hbd p.side W)
  rw [worth_clock p d k hno ⟨hc, hk0⟩]
  have HS := Aside0.mk (LmAt.new W p)
  have hkb : (k : Int) ≤ 100 := by omega
  have HLN := Aside0.mk (legalR_len p.cells p.side)
  have hln0 : ((legalR p.cells p.side).length : Int) ≠ 0 := by
    cases h : legalR p.cells p.side with
    | nil => exact absurd h hno
    | cons x r => simp; omega
  have hlnb : (((legalR p.cells p.side).length : Int) == 0) = false := by simpa using hln0
  have hcb : (p.clock == 120) = true := by simpa using hc
  have hu := Tryz.underlying23
  clear hw hk hno hbd hsd hln0 hc
  generalize legalR p.cells p.side = l at *
  go_enter Tryz.func24, Tryz.ntmps24
  go_upto_region 1 with fail
  generalize W.alloc (.cells #[.string p.cells, .int .i64 p.side, .int .i64 p.clock, .int .i64 p.full] 23) = W1 at *
  obtain ⟨c0, c1, c2, c3⟩ := HS.out.box
  go_wp2_with fail
  refine (HOF.out _).mono ?_
  rintro e w1 ⟨v, rfl, ho, hb⟩
  obtain ⟨A, cp, rfl⟩ := ho.reads.form
  have H1 := Aside0.mk (HS.out.below hb)
  clear ho hb c0 c1 c2 c3
  obtain ⟨c0, c1, c2, c3⟩ := H1.out.box
  go_wp2_with fail
  go_ret
  exact ⟨rfl, H1.out.bel⟩
set_option maxRecDepth 100000 in
set_option maxHeartbeats 4000000 in
theorem rw_leaf (hw : wellS p = 0) (hk : k ≤ 100) (hno : legalR p.cells p.side ≠ []) (hc : ¬ (p.clock = 120 ∧ 0 < k)) :
    Calls Tryz.prog 24 #[posV p, .int .i64 0, .int .i64 (k : Int)] W fun e w' => e = .returned (.int .i64 (worthS 0 p.cells p.side p.clock k)) ∧ Below W.heap.size W w' := by
  obtain ⟨hbd, hsd, _⟩ := argOk_yes (checkP_parts (well_check hw)).1
  have HOF := Aside0.mk (fun W => rof8_c p.cells hbd p.side W)
  have HQ := Aside0.mk (fun W => rqof_c p (by rw [board_size hbd]; decide) W)
  rw [worth_leaf p k hno hc, ← ofQ_well hw]
  generalize ofQ p = r at *
  have HS := Aside0.mk (LmAt.new W p)
  have hkb : (k : Int) ≤ 100 := by omega
  have HLN := Aside0.mk (legalR_len p.cells p.side)
  have hln0 : ((legalR p.cells p.side).length : Int) ≠ 0 := by
    cases h : legalR p.cells p.side with
    | nil => exact absurd h hno
    | cons x r => simp; omega
  have hlnb : (((legalR p.cells p.side).length : Int) == 0) = false := by simpa using hln0
  have hcc : (p.clock == 120) = false ∨ decide (0 < k) = false := by
    by_cases hk0 : 0 < k
    · exact .inl (by simpa using fun he => hc ⟨he, hk0⟩)
    · exact .inr (by simpa using hk0)
  have hu := Tryz.underlying23
  clear hw hk hno hbd hsd hln0 hc
  generalize legalR p.cells p.side = l at *
  cases hcl : (p.clock == 120)
  all_goals
    rw [hcl] at hcc
    simp only [Bool.true_eq_false, false_or, true_or] at hcc
    go_enter Tryz.func24, Tryz.ntmps24
    go_upto_region 1 with fail
    generalize W.alloc (.cells #[.string p.cells, .int .i64 p.side, .int .i64 p.clock, .int .i64 p.full] 23) = W1 at *
    obtain ⟨c0, c1, c2, c3⟩ := HS.out.box
    go_wp2_with fail
    refine (HOF.out _).mono ?_
    rintro e w1 ⟨v, rfl, ho, hb⟩
    obtain ⟨A, cp, rfl⟩ := ho.reads.form
    have H1 := Aside0.mk (HS.out.below hb)
    clear ho hb c0 c1 c2 c3
    obtain ⟨c0, c1, c2, c3⟩ := H1.out.box
    go_wp2_with fail
    refine (HQ.out _).mono ?_
    rintro e w2 ⟨rfl, hb⟩
    have H2 := Aside0.mk (H1.out.below hb)
    clear hb c0 c1 c2 c3
    go_wp2_with fail
    go_ret
    exact ⟨rfl, H2.out.bel⟩
set_option maxRecDepth 100000 in
set_option maxHeartbeats 8000000 in
theorem rw_next (IH : RwC d) (hw : wellS p = 0) (hk : k + (d + 1) ≤ 100) (hno : legalR p.cells p.side ≠ []) (hc : ¬ (p.clock = 120 ∧ 0 < k)) :
    Calls Tryz.prog 24 #[posV p, .int .i64 ((d : Int) + 1), .int .i64 (k : Int)] W fun e w' => e = .returned (.int .i64 (worthS (d + 1) p.cells p.side p.clock k)) ∧ Below W.heap.size W w' := by
  obtain ⟨hbd, hsd, _⟩ := argOk_yes (checkP_parts (well_check hw)).1
  have HOF := Aside0.mk (fun W => rof8_c p.cells hbd p.side W)
  have HAP := Aside0.mk (fun (m : Mvi) (W : World) => rapply_c p (by rw [board_size hbd]; decide) m W)
  have HF := Aside0.mk (fun (m : Mv) (hm : m ∈ legalR p.cells p.side) => show ∃ q cq, applyP p (mviOf m) = (q, cq, 0) ∧ wellS q = 0 ∧ moveW p d k m = - worthS d q.cells q.side q.clock (k + 1) by
    rw [← legal_eq hw] at hm
    obtain ⟨q, cq, e1, e2, e3, e4, e5⟩ := legal_step8 hm
    obtain ⟨_, _, hs⟩ := legal_mem.1 hm
    have e6 := step_worth d k hm e1
    rw [make_ok hw hs] at e1
    exact ⟨q, cq, e1, e2, e6⟩)
  have HIH := Aside0.mk (fun (q : Pos) (W : World) (hwq : wellS q = 0) => show Calls Tryz.prog 24 #[posV q, .int .i64 (d : Int), .int .i64 ((k : Int) + 1)] W fun e w' => e = .returned (.int .i64 (worthS d q.cells q.side q.clock (k + 1))) ∧ Below W.heap.size W w' from IH q (k + 1) W hwq (by omega))
  rw [worth_more p d k hno hc]
  have HFL := Aside0.mk (fun m => moveW_le p d k (by omega) m)
  have HS := Aside0.mk (LmAt.new W p)
  have hkb : (k : Int) ≤ 100 := by omega
  have hdb : (d : Int) ≤ 100 := by omega
  have HLN := Aside0.mk (legalR_len p.cells p.side)
  have hln0 : ((legalR p.cells p.side).length : Int) ≠ 0 := by
    cases h : legalR p.cells p.side with
    | nil => exact absurd h hno
    | cons x r => simp; omega
  have hlnb : (((legalR p.cells p.side).length : Int) == 0) = false := by simpa using hln0
  have HCC := Aside0.mk (show (p.clock == 120 && decide (0 < k)) = false by
    rw [Bool.eq_false_iff]
    intro h
    simp only [Bool.and_eq_true, beq_iff_eq, decide_eq_true_eq] at h
    exact hc h)
  have hu := Tryz.underlying23
  have hu2 := Tryz.underlying36
  generalize moveW p d k = f at *
  have HBL := Aside0.mk (fun (i : Nat) => bestF_in f (-1000000) 1000000 ((legalR p.cells p.side).take i) (fun m _ => by have := HFL.out m; omega) (-1000000) (by omega) (by omega))
  have HWB := Aside0.mk (fun (q : Pos) => worthS_le d q.cells q.side q.clock (k + 1) (by omega))
  clear hw hk hno hbd hsd hln0 hc IH
  generalize legalR p.cells p.side = l at *
  go_enter Tryz.func24, Tryz.ntmps24
  go_upto_region 1 with fail
  generalize W.alloc (.cells #[.string p.cells, .int .i64 p.side, .int .i64 p.clock, .int .i64 p.full] 23) = W1 at *
  obtain ⟨c0, c1, c2, c3⟩ := HS.out.box
  go_wp2_with fail
  refine (HOF.out _).mono ?_
  rintro e w1 ⟨v, rfl, ho, hb⟩
  obtain ⟨A, cp, rfl⟩ := ho.reads.form
  have H1 := Aside0.mk (show RowAt W w1 p (.slice A l.length cp) l from ⟨(HS.out.below hb).box, ho.reads.lower HS.out.bel.size, (HS.out.below hb).bel⟩)
  clear ho hb c0 c1 c2 c3 HOF HS
  obtain ⟨c0, c1, c2, c3⟩ := H1.out.box
  go_upto_region 4 with fail
  go_cut [29] from 23 to 29 (fun s29 wx => s29 = .bool false ∧ wx = w1)
  case first =>
    have hcc := HCC.out
    cases hcl : (p.clock == 120)
    · clear hcc
      go_wp2_with fail
      go_meet
      exact ⟨rfl, rfl⟩
    · rw [hcl, Bool.true_and] at hcc
      go_wp2_with fail
      go_meet
      exact ⟨rfl, rfl⟩
  case rest =>
  obtain ⟨rfl, rfl⟩ := hcut
  clear c0 c1 c2 c3
  go_wp2_with fail
  go_loopg [8, 9] l.length (fun gg s8 s9 wr => ∃ i : Nat, s8 = .int .i64 (bestF f (-1000000) (l.take i)) ∧ s9 = .int .i64 (i : Int) ∧ i + gg = l.length ∧ Aside0 (RowAt W wr p (.slice A l.length cp) l))
  case atStart => exact ⟨0, rfl, rfl, by omega, H1⟩
  case round =>
    clear H1
    obtain ⟨i, rfl, rfl, hi, HX⟩ := hrel
    cases gk with
    | zero =>
      have hn : ¬ ((i : Int) < (l.length : Int)) := by omega
      have HR := Aside0.mk (show bestF f (-1000000) (l.take i) = bestF f (-1000000) l by rw [show i = l.length by omega, List.take_length])
      clear hi
      go_wp2_with fail
      go_ret
      exact ⟨ret_int HR.out, HX.out.bel⟩
    | succ g =>
      have hn : (i : Int) < (l.length : Int) := by omega
      have hil : i < l.length := by omega
      have hib : (i : Int) ≤ 8100 := by have := HLN.out; omega
      have HI := Aside0.mk (show i + 1 + g = l.length by omega)
      obtain ⟨g1, cap1', hA1, _, hg1, hx1⟩ := HX.out.m1.at (fun h => by rw [h] at hil; simp at hil)
      simp only [Value.slice.injEq, true_and] at hA1
      obtain ⟨rfl, rfl⟩ := hA1
      obtain ⟨x0, x1⟩ := hx1 i hil
      obtain ⟨q, cq, hap, hwq, hfq⟩ := HF.out l[i] (List.getElem_mem hil)
      have HNX := Aside0.mk (bestF_take f (-1000000) l i hil)
      have HXC := Aside0.mk (fun V (h : MvAt V W.heap.size (.slice (some ⟨g1, 0, none⟩) l.length cp) l) => h.cell i hil)
      have hb1 := HBL.out i
      have hb2 := HBL.out (i + 1)
      have hwb := HWB.out q
      rw [HNX.out, hfq] at hb2
      have HSX := Aside0.mk (show max (bestF f (-1000000) (l.take i)) (- worthS d q.cells q.side q.clock (k + 1)) = bestF f (-1000000) (l.take (i + 1)) by rw [HNX.out, hfq])
      have HAP1 := Aside0.mk (HAP.out (mviOf l[i]))
      unfold ApplyIs at HAP1
      rw [hap] at HAP1
      have HIH1 := Aside0.mk (fun W => HIH.out q W hwq)
      generalize l[i] = m at *
      generalize hsn : bestF f (-1000000) (l.take (i + 1)) = sn at *
      have HSN := Aside0.mk hsn
      clear hsn
      generalize bestF f (-1000000) (l.take i) = sm at *
      generalize worthS d q.cells q.side q.clock (k + 1) = wq at *
      obtain ⟨ma, mb⟩ := m
      simp only at x0 x1
      clear hx1 hi hwq hap hfq HNX hb2 hil HF HAP HIH HBL HWB HFL
      obtain ⟨e0, e1, e2, e3⟩ := HX.out.box
      go_upto_region 12 with fail
      have HX1 := Aside0.mk HX.out.drew
      clear HX
      go_cut [10] from 40 to 49 (fun s10 wx => ∃ qb : Nat, s10 = .pointer (some ⟨qb, 0, none⟩) ∧ Aside0 (OqAt W wx p (.slice (some ⟨g1, 0, none⟩) l.length cp) l q qb))
      case first =>
        go_region_held3 (fun V => V.cell? ⟨W.heap.size, 0, none⟩ = some (.string p.cells) ∧ V.cell? ⟨W.heap.size, 1, none⟩ = some (.int .i64 p.side) ∧ V.cell? ⟨W.heap.size, 2, none⟩ = some (.int .i64 p.clock) ∧ V.cell? ⟨W.heap.size, 3, none⟩ = some (.int .i64 p.full) ∧ V.cell? ⟨g1, i * 2, none⟩ = some (.int .i64 (ma : Int)) ∧ V.cell? ⟨g1, i * 2 + 1, none⟩ = some (.int .i64 (mb : Int))) (go_keep)
          (first
            | (go_at_call 27; (with_reducible refine (HAP1.out wr.drew).mono ?_); rintro e w6 ⟨rfl, hb⟩; have HX2 := Aside0.mk (HX1.out.below hb); clear HX1 hb e0 e1 e2 e3 x0 x1; obtain ⟨e0, e1, e2, e3⟩ := HX2.out.box; obtain ⟨x0, x1⟩ := HXC.out _ HX2.out.m1; have n0 : w6.heap.size ≠ W.heap.size := World.new_ne w6 _ e0; have n1 : w6.heap.size ≠ g1 := World.new_ne w6 _ x0)
            | (go_at_call 27; refine (HAP1.out _).mono ?_; rintro e w6 ⟨rfl, hb⟩; have HZ := Aside0.mk (zq_new wr.drew w6 hb); have HX2 := Aside0.mk ((HX1.out.below (below_alloc (Below.refl _ _) _)).below hb); have n0 : wr.heap.size ≠ W.heap.size := World.new_ne wr _ e0; have n1 : wr.heap.size ≠ g1 := World.new_ne wr _ x0; clear hb e0 e1 e2 e3 x0 x1; obtain ⟨e0, e1, e2, e3⟩ := HX2.out.box; obtain ⟨x0, x1⟩ := HXC.out _ HX2.out.m1; have z0 : w6.cell? ⟨wr.heap.size, 0, none⟩ = some (.string { data := #[] }) := HZ.out.1; have z1 : w6.cell? ⟨wr.heap.size, 1, none⟩ = some (.int .i64 0) := HZ.out.2.1; have z2 : w6.cell? ⟨wr.heap.size, 2, none⟩ = some (.int .i64 0) := HZ.out.2.2.1; have z3 : w6.cell? ⟨wr.heap.size, 3, none⟩ = some (.int .i64 0) := HZ.out.2.2.2.1; have zf : ∀ k, w6.frozen? ⟨wr.heap.size, k, none⟩ = false := HZ.out.2.2.2.2.1))
        all_goals
          go_wp2_with fail
          go_meet
          first
          | exact ⟨_, rfl, ⟨OqAt.mk1 HX2.out q⟩⟩
          | exact ⟨_, rfl, ⟨OqAt.mk2 HX1.out HZ.out.2.2.2.2.2 z0 z1 z2 z3 q⟩⟩
      case rest =>
      obtain ⟨qb, rfl, HQ⟩ := hcut
      clear e0 e1 e2 e3 x0 x1 HX1 HAP1
      obtain ⟨f0, f1, f2, f3⟩ := HQ.out.qx
      go_wp2_with fail
      refine (HIH1.out _).mono ?_
      rintro e w7 ⟨rfl, hb⟩
      have HQ2 := Aside0.mk (HQ.out.row.below hb)
      clear hb f0 f1 f2 f3 HQ
      go_wp2_with fail
      go_roundg g
      case measure => omega
      case rel => exact ⟨i + 1, by rw [HSX.out, HSN.out], by go_num, by have := HI.out; omega, HQ2⟩
end
/-- **What the reference's worth answers.** -/
theorem rw_all : ∀ d : Nat, RwC d := by
  intro d
  induction d with
  | zero =>
    intro p k W hw hk
    by_cases hno : legalR p.cells p.side = []
    · exact rw_none p 0 k W 0 hw hk hno
    · by_cases hc : p.clock = 120 ∧ 0 < k
      · exact rw_clock p 0 k W 0 hw hk hno hc.1 hc.2
      · exact rw_leaf p k W hw hk hno hc
  | succ d ih =>
    intro p k W hw hk
    have e : ((d + 1 : Nat) : Int) = (d : Int) + 1 := Int.natCast_succ d
    rw [e]
    by_cases hno : legalR p.cells p.side = []
    · exact rw_none p (d + 1) k W _ hw hk hno
    · by_cases hc : p.clock = 120 ∧ 0 < k
      · exact rw_clock p (d + 1) k W _ hw hk hno hc.1 hc.2
      · exact rw_next p d k W ih hw hk hno hc
end Go.Proofs.YtafmapadkpjliaaGreatDoor.K

/- Walks: the reference's Moves (layer 8). -/
namespace Go.Proofs.YtafmapadkpjliaaGreatDoor.K
open Go.RowKit Go.Lib Go.Proofs.YtafmapadkpjliaaGreatDoorW.PrintWords Go.Proofs.YtafmapadkpjliaaGreatDoor.Sp
set_option linter.unusedVariables false
set_option linter.unusedSimpArgs false
attribute [local go_sem] cel_get   -- for this text's walks alone
set_option maxRecDepth 100000 in
set_option maxHeartbeats 2000000 in
theorem rmoves8_c (p : Pos) (hmx : p.cells.size ≤ maxLen) (w : World) : Calls Tryz.prog 17 #[posV p] w fun e w' => ∃ v, e = .returned v ∧ OwnM w' w.heap.size v (legalL p) ∧ Below w.heap.size w w' := by
  have HW := Aside0.mk (fun W => rwell_c p hmx W)
  have hu := Tryz.underlying23
  have HB0 := Aside0.mk (BoxP.new w p)
  have HW0 := Aside0.mk (below_new (Below.refl w.heap.size w) (.cells #[.string p.cells, .int .i64 p.side, .int .i64 p.clock, .int .i64 p.full] 23))
  by_cases hw : wellS p = 0
  case neg =>
    rw [legal_no hw]
    have h2 : (wellS p != 0) = true := by simpa using hw
    clear hw hmx
    generalize wellS p = r at *
    go_enter Tryz.func17, Tryz.ntmps17
    go_wp2_with (go_at_call 28; refine (HW.out _).mono ?_; rintro e w1 ⟨rfl, hb⟩; have HW1 := Aside0.mk (below_go HW0.out hb); clear hb)
    go_ret
    exact ⟨_, rfl, own_nil _ _ _ _, HW1.out⟩
  have hbd := (argOk_yes (checkP_board (well_check hw))).1
  have HOF := Aside0.mk (fun W => rof8_c p.cells hbd p.side W)
  rw [← legal_eq hw] at HOF
  rw [hw] at HW
  generalize legalL p = l at *
  clear hw hmx hbd
  go_enter Tryz.func17, Tryz.ntmps17
  go_wp2_with fail
  refine (HW.out _).mono ?_
  rintro e w1 ⟨rfl, hb⟩
  have HB1 := Aside0.mk (HB0.out.below hb)
  have HW1 := Aside0.mk (below_go HW0.out hb)
  clear hb HB0 HW0
  obtain ⟨e0, e1, e2, e3⟩ := HB1.out
  go_wp2_with fail
  refine (HOF.out _).mono ?_
  rintro e w2 ⟨v, rfl, h2, hb⟩
  have HR := Aside0.mk (And.intro (h2.lower HW1.out.size) (below_go HW1.out hb))
  clear h2 hb HB1 HW1 e0 e1 e2 e3
  go_wp2_with fail
  go_ret
  exact ⟨_, rfl, HR.out.1, HR.out.2⟩
end Go.Proofs.YtafmapadkpjliaaGreatDoor.K

/- search's reference: Check, Score, Best. -/
namespace Go.Proofs.YtafmapadkpjliaaGreatDoor.K
open Go.RowKit Go.Lib Go.Proofs.YtafmapadkpjliaaGreatDoorW.PrintWords Go.Proofs.YtafmapadkpjliaaGreatDoorW.PrintLast Go.Proofs.YtafmapadkpjliaaGreatDoorW.PrintMore Go.Proofs.YtafmapadkpjliaaGreatDoor.Sp
set_option linter.unusedVariables false
set_option linter.unusedSimpArgs false
theorem begE_nil (p : Pos) (D least : Int) : begE p D least [] = if wellS p ≠ 0 then wellS p else if D < least ∨ 64 < D then 1 else 0 := rfl
set_option maxRecDepth 100000 in
set_option maxHeartbeats 4000000 in
theorem rcheck22_c (p : Pos) (hmx : p.cells.size ≤ maxLen) (D least : Int) (W : World) : Calls Tryz.prog 16 #[posV p, .int .i64 D, .int .i64 least] W fun e w' => e = .returned (.int .i64 (begE p D least [])) ∧ Below W.heap.size W w' := by
  have HWL := Aside0.mk (fun W' => rwell_c p hmx W')
  have hu := Tryz.underlying23
  have HS := Aside0.mk (LmAt.new W p)
  rw [begE_nil]
  by_cases hw : wellS p = 0
  · rw [hw] at HWL
    rw [if_neg (by simpa using hw)]
    clear hw hmx
    by_cases h1 : D < least
    · rw [if_pos (.inl h1)]
      go_enter Tryz.func16, Tryz.ntmps16
      go_upto_region 1 with fail
      generalize W.alloc (.cells #[.string p.cells, .int .i64 p.side, .int .i64 p.clock, .int .i64 p.full] 23) = W1 at *
      obtain ⟨c0, c1, c2, c3⟩ := HS.out.box
      go_wp2_with fail
      refine (HWL.out _).mono ?_
      rintro e w1 ⟨rfl, hb⟩
      have H1 := Aside0.mk (HS.out.below hb)
      clear hb c0 c1 c2 c3
      go_wp2_with fail
      go_ret
      exact ⟨rfl, H1.out.bel⟩
    · by_cases h2 : 64 < D
      · rw [if_pos (.inr h2)]
        go_enter Tryz.func16, Tryz.ntmps16
        go_upto_region 1 with fail
        generalize W.alloc (.cells #[.string p.cells, .int .i64 p.side, .int .i64 p.clock, .int .i64 p.full] 23) = W1 at *
        obtain ⟨c0, c1, c2, c3⟩ := HS.out.box
        go_wp2_with fail
        refine (HWL.out _).mono ?_
        rintro e w1 ⟨rfl, hb⟩
        have H1 := Aside0.mk (HS.out.below hb)
        clear hb c0 c1 c2 c3
        go_wp2_with fail
        go_ret
        exact ⟨rfl, H1.out.bel⟩
      · rw [if_neg (fun h => h.elim h1 h2)]
        go_enter Tryz.func16, Tryz.ntmps16
        go_upto_region 1 with fail
        generalize W.alloc (.cells #[.string p.cells, .int .i64 p.side, .int .i64 p.clock, .int .i64 p.full] 23) = W1 at *
        obtain ⟨c0, c1, c2, c3⟩ := HS.out.box
        go_wp2_with fail
        refine (HWL.out _).mono ?_
        rintro e w1 ⟨rfl, hb⟩
        have H1 := Aside0.mk (HS.out.below hb)
        clear hb c0 c1 c2 c3
        go_wp2_with fail
        go_ret
        exact ⟨rfl, H1.out.bel⟩
  · rw [if_pos (by simpa using hw)]
    have hn : (wellS p == 0) = false := by simpa using hw
    generalize wellS p = x at *
    clear hw hmx
    go_enter Tryz.func16, Tryz.ntmps16
    go_upto_region 1 with fail
    generalize W.alloc (.cells #[.string p.cells, .int .i64 p.side, .int .i64 p.clock, .int .i64 p.full] 23) = W1 at *
    obtain ⟨c0, c1, c2, c3⟩ := HS.out.box
    go_wp2_with fail
    refine (HWL.out _).mono ?_
    rintro e w1 ⟨rfl, hb⟩
    have H1 := Aside0.mk (HS.out.below hb)
    clear hb c0 c1 c2 c3
    go_wp2_with fail
    go_ret
    exact ⟨rfl, H1.out.bel⟩
set_option maxRecDepth 100000 in
set_option maxHeartbeats 4000000 in
theorem rscore_no (p : Pos) (hmx : p.cells.size ≤ maxLen) (D : Int) (W : World) (hE : begE p D 0 [] ≠ 0) :
    Calls Tryz.prog 10 #[posV p, .int .i64 D] W fun e w' => e = .returned (.tuple #[.int .i64 0, .int .i64 (begE p D 0 [])]) ∧ Below W.heap.size W w' := by
  have HB := Aside0.mk (fun (W' : World) => rcheck22_c p hmx D 0 W')
  have hu := Tryz.underlying23
  have HS := Aside0.mk (LmAt.new W p)
  have hne : (begE p D 0 [] != 0) = true := by simpa using hE
  generalize begE p D 0 [] = E at *
  clear hE hmx
  go_enter Tryz.func10, Tryz.ntmps10
  go_upto_region 1 with fail
  generalize W.alloc (.cells #[.string p.cells, .int .i64 p.side, .int .i64 p.clock, .int .i64 p.full] 23) = W1 at *
  obtain ⟨c0, c1, c2, c3⟩ := HS.out.box
  go_wp2_with fail
  refine (HB.out _).mono ?_
  rintro e w1 ⟨rfl, hb⟩
  have H1 := Aside0.mk (HS.out.below hb)
  clear hb c0 c1 c2 c3
  go_wp2_with fail
  go_ret2
  exact ⟨rfl, H1.out.bel⟩
set_option maxRecDepth 100000 in
set_option maxHeartbeats 4000000 in
theorem rscore_ok (p : Pos) (hmx : p.cells.size ≤ maxLen) (d : Nat) (W : World) (hE : begE p (d : Int) 0 [] = 0) :
    Calls Tryz.prog 10 #[posV p, .int .i64 (d : Int)] W fun e w' => e = .returned (.tuple #[.int .i64 (worthS d p.cells p.side p.clock 0), .int .i64 0]) ∧ Below W.heap.size W w' := by
  have HB := fun (W' : World) => rcheck22_c p hmx (d : Int) 0 W'
  rw [hE] at HB
  have HB := Aside0.mk HB
  obtain ⟨hw, _, hd⟩ := begE_zero hE
  have HWC := Aside0.mk (fun (W : World) => show Calls Tryz.prog 24 #[posV p, .int .i64 (d : Int), .int .i64 0] W fun e w' => e = .returned (.int .i64 (worthS d p.cells p.side p.clock 0)) ∧ Below W.heap.size W w' from rw_all d p 0 W hw (by omega))
  have hu := Tryz.underlying23
  have HS := Aside0.mk (LmAt.new W p)
  generalize worthS d p.cells p.side p.clock 0 = x at *
  clear hE hmx hw
  go_enter Tryz.func10, Tryz.ntmps10
  go_upto_region 1 with fail
  generalize W.alloc (.cells #[.string p.cells, .int .i64 p.side, .int .i64 p.clock, .int .i64 p.full] 23) = W1 at *
  obtain ⟨c0, c1, c2, c3⟩ := HS.out.box
  go_wp2_with fail
  refine (HB.out _).mono ?_
  rintro e w1 ⟨rfl, hb⟩
  have H1 := Aside0.mk (HS.out.below hb)
  clear hb c0 c1 c2 c3
  obtain ⟨c0, c1, c2, c3⟩ := H1.out.box
  go_wp2_with fail
  refine (HWC.out _).mono ?_
  rintro e w2 ⟨rfl, hb⟩
  have H2 := Aside0.mk (H1.out.below hb)
  clear hb c0 c1 c2 c3
  go_wp2_with fail
  go_ret2
  exact ⟨rfl, H2.out.bel⟩
end Go.Proofs.YtafmapadkpjliaaGreatDoor.K

/- SearchScores, SearchTurn: the walks. -/
namespace Go.Proofs.YtafmapadkpjliaaGreatDoor.K
open Go.RowKit Go.Lib Go.Proofs.YtafmapadkpjliaaGreatDoorW.PrintWords Go.Proofs.YtafmapadkpjliaaGreatDoorW.PrintLast Go.Proofs.YtafmapadkpjliaaGreatDoorW.PrintMore Go.Proofs.YtafmapadkpjliaaGreatDoor.Sp
set_option linter.unusedVariables false
set_option linter.unusedSimpArgs false
/-- What few tells. -/
def Few22 (p : Pos) (D : Int) (W : World) (e : Ending) (w' : World) : Prop :=
  ∃ b : Bool, e = .returned (.bool b) ∧ (b = true → (wellS p = 0 → nP p.cells ≤ 9) ∧ (D ≤ 1 ∨ 64 < D ∨ D = 2)) ∧ Below W.heap.size W w'
set_option maxRecDepth 100000 in
set_option maxHeartbeats 4000000 in
theorem few22_c (p : Pos) (hmx : p.cells.size ≤ maxLen) (D : Int) (W : World) : Calls Tryz.prog 7 #[posV p, .int .i64 D] W (Few22 p D W) := by
  have HF := fun W => few21_c p hmx 9 W
  have HF6 := fun W => few21_c p hmx 6 W
  unfold Few21 at HF HF6
  have HF := Aside0.mk HF
  have HF6 := Aside0.mk HF6
  have hu := Tryz.underlying23
  have HS := Aside0.mk (LmAt.new W p)
  have HEND := Aside0.mk (fun (b : Bool) (w' : World) (h1 : b = true → (wellS p = 0 → nP p.cells ≤ 9) ∧ (D ≤ 1 ∨ 64 < D ∨ D = 2)) (h2 : Below W.heap.size W w') => show Few22 p D W (.returned (.bool b)) w' from ⟨b, rfl, h1, h2⟩)
  clear hmx
  go_enter Tryz.func7, Tryz.ntmps7
  go_upto_region 1 with fail
  generalize W.alloc (.cells #[.string p.cells, .int .i64 p.side, .int .i64 p.clock, .int .i64 p.full] 23) = W1 at *
  obtain ⟨c0, c1, c2, c3⟩ := HS.out.box
  go_wp2_with fail
  refine (HF.out _).mono ?_
  rintro e w1 ⟨b, rfl, hf, hb⟩
  have H1 := Aside0.mk (HS.out.below hb)
  have HFB := Aside0.mk hf
  clear hb hf c0 c1 c2 c3 HS HF
  cases b
  case false =>
    go_wp2_with fail
    go_ret
    exact HEND.out false _ (fun h => by cases h) H1.out.bel
  have H9 := Aside0.mk (fun (hw : wellS p = 0) => show nP p.cells ≤ 9 by have := HFB.out rfl hw; omega)
  clear HFB
  by_cases h1 : D ≤ 1
  · go_wp2_with fail
    go_ret
    exact HEND.out true _ (fun _ => ⟨H9.out, .inl (by omega)⟩) H1.out.bel
  · by_cases h2 : 64 < D
    · go_wp2_with fail
      go_ret
      exact HEND.out true _ (fun _ => ⟨H9.out, .inr (.inl (by omega))⟩) H1.out.bel
    · cases h3 : (D == 2)
      case false =>
        go_wp2_with fail
        go_ret
        exact HEND.out _ _ (fun h => ⟨H9.out, by simp at h; omega⟩) H1.out.bel
      case true =>
        have HD := Aside0.mk (beq_iff_eq.1 h3)
        obtain ⟨c0, c1, c2, c3⟩ := H1.out.box
        go_wp2_with fail
        refine (HF6.out _).mono ?_
        rintro e w2 ⟨b, rfl, -, hb⟩
        have H2 := Aside0.mk (H1.out.below hb)
        clear hb c0 c1 c2 c3
        go_wp2_with fail
        go_ret
        exact HEND.out _ _ (fun _ => ⟨H9.out, .inr (.inr HD.out)⟩) H2.out.bel
/-- Score and the document's Score tell the same. -/
theorem score_both (p : Pos) (hmx : p.cells.size ≤ maxLen) (D : Int) (h9 : wellS p = 0 → nP p.cells ≤ 9) (hD : D ≤ 1 ∨ 64 < D ∨ D = 2) :
    ∃ x : Int, (∀ W, TabW W → Calls Tryz.prog 9 #[posV p, .int .i64 D] W (ScoreIs x (begE p D 0 []) W)) ∧ (∀ W, Calls Tryz.prog 10 #[posV p, .int .i64 D] W (ScoreIs x (begE p D 0 []) W)) ∧ (begE p D 0 [] = 0 → x = worthS D.toNat p.cells p.side p.clock 0) := by
  by_cases hE : begE p D 0 [] = 0
  · obtain ⟨hw, h0, h64⟩ := begE_zero hE
    obtain ⟨d, rfl⟩ := Int.eq_ofNat_of_zero_le h0
    refine ⟨worthS d p.cells p.side p.clock 0, fun W hT => ?_, fun W => ?_, fun _ => rfl⟩
    · have := score_ok p d (by omega) (h9 hw) W hT hE
      rw [hE]
      exact this
    · have := rscore_ok p hmx d W hE
      rw [hE]
      exact this
  · exact ⟨0, fun W hT => score_no p D W hT hE, fun W => rscore_no p hmx D W hE, fun h => absurd h hE⟩
set_option maxRecDepth 100000 in
set_option maxHeartbeats 4000000 in
theorem searchScoresLaw (w : World) (p : Pos) (D : Int) (hmx : p.cells.size ≤ maxLen) (hT : TabW w) : Calls Tryz.prog 3 #[posV p, .int .i64 D] w fun e w' => e = .returned (.bool true) ∧ Below w.heap.size w w' := by
  have HT := Aside0.mk (fun (W : World) (hb : Below w.heap.size w W) => hT.below hb)
  have HLV := Aside0.mk (fun (W : World) (hT : TabW W) => live22_c W hT)
  have HF := fun W => few22_c p hmx D W
  unfold Few22 at HF
  have HF := Aside0.mk HF
  have HSB := Aside0.mk (fun (h : (wellS p = 0 → nP p.cells ≤ 9) ∧ (D ≤ 1 ∨ 64 < D ∨ D = 2)) => score_both p hmx D h.1 h.2)
  have hu := Tryz.underlying23
  have HP0 := Aside0.mk (LmAt.new w p)
  clear hmx hT
  go_enter Tryz.func3, Tryz.ntmps3
  go_upto_region 1 with fail
  generalize w.alloc (.cells #[.string p.cells, .int .i64 p.side, .int .i64 p.clock, .int .i64 p.full] 23) = W1 at *
  obtain ⟨c0, c1, c2, c3⟩ := HP0.out.box
  go_wp2_with fail
  refine (HF.out _).mono ?_
  rintro e w1 ⟨b, rfl, hf, hb⟩
  have HP1 := Aside0.mk (HP0.out.below hb)
  have HFB := Aside0.mk hf
  clear hb hf c0 c1 c2 c3 HP0
  cases b
  case false =>
    go_wp2_with (go_at_call 8; refine (HLV.out _ (HT.out _ HP1.out.bel)).mono ?_; rintro e w2 ⟨rfl, hb⟩; have HW2 := Aside0.mk (HP1.out.below hb).bel; clear hb)
    go_ret
    exact ⟨rfl, HW2.out⟩
  obtain ⟨x, hs, hr, -⟩ := HSB.out (HFB.out rfl)
  unfold ScoreIs at hs hr
  have HSC := Aside0.mk hs
  have HRC := Aside0.mk hr
  clear hs hr HSB HFB HF
  generalize begE p D 0 [] = E at *
  obtain ⟨c0, c1, c2, c3⟩ := HP1.out.box
  go_wp2_with fail
  refine (HSC.out _ (HT.out _ HP1.out.bel)).mono ?_
  rintro e w2 ⟨rfl, hb⟩
  have HP2 := Aside0.mk (HP1.out.below hb)
  clear hb c0 c1 c2 c3
  obtain ⟨c0, c1, c2, c3⟩ := HP2.out.box
  go_wp2_with fail
  refine (HRC.out _).mono ?_
  rintro e w3 ⟨rfl, hb⟩
  have HP3 := Aside0.mk (HP2.out.below hb)
  clear hb c0 c1 c2 c3
  go_wp2_with (go_at_call 8; refine (HLV.out _ (HT.out _ HP3.out.bel)).mono ?_; rintro e w4 ⟨rfl, hb⟩; have HW4 := Aside0.mk (HP3.out.below hb).bel; clear hb)
  go_ret
  exact ⟨rfl, HW4.out⟩
set_option maxRecDepth 100000 in
set_option maxHeartbeats 4000000 in
theorem searchTurnLaw (w : World) (p : Pos) (D : Int) (hmx : p.cells.size ≤ maxLen) (hT : TabW w) : Calls Tryz.prog 6 #[posV p, .int .i64 D] w fun e w' => e = .returned (.bool true) ∧ Below w.heap.size w w' := by
  have HT := Aside0.mk (fun (W : World) (hb : Below w.heap.size w W) => hT.below hb)
  have HLV := Aside0.mk (fun (W : World) (hT : TabW W) => live22_c W hT)
  have HF := fun W => few22_c p hmx D W
  unfold Few22 at HF
  have HF := Aside0.mk HF
  have HCK := Aside0.mk (fun W => rcheck22_c p hmx D 0 W)
  have hu := Tryz.underlying23
  have HP0 := Aside0.mk (LmAt.new w p)
  have HMX := Aside0.mk hmx
  clear hmx hT
  go_enter Tryz.func6, Tryz.ntmps6
  go_upto_region 1 with fail
  generalize w.alloc (.cells #[.string p.cells, .int .i64 p.side, .int .i64 p.clock, .int .i64 p.full] 23) = W1 at *
  obtain ⟨c0, c1, c2, c3⟩ := HP0.out.box
  go_wp2_with fail
  refine (HF.out _).mono ?_
  rintro e w1 ⟨b, rfl, hf, hb⟩
  have HP1 := Aside0.mk (HP0.out.below hb)
  have HFB := Aside0.mk hf
  clear hb hf c0 c1 c2 c3 HP0
  cases b
  case false =>
    go_wp2_with (go_at_call 8; refine (HLV.out _ (HT.out _ HP1.out.bel)).mono ?_; rintro e w2 ⟨rfl, hb⟩; have HW2 := Aside0.mk (HP1.out.below hb).bel; clear hb)
    go_ret
    exact ⟨rfl, HW2.out⟩
  obtain ⟨c0, c1, c2, c3⟩ := HP1.out.box
  by_cases hE : begE p D 0 [] = 0
  case neg =>
    have h2 : (begE p D 0 [] != 0) = true := by simpa using hE
    clear hE HFB
    generalize begE p D 0 [] = E at *
    go_wp2_with fail
    refine (HCK.out _).mono ?_
    rintro e w2 ⟨rfl, hb⟩
    have HP2 := Aside0.mk (HP1.out.below hb)
    clear hb c0 c1 c2 c3
    go_wp2_with (go_at_call 8; refine (HLV.out _ (HT.out _ HP2.out.bel)).mono ?_; rintro e w3 ⟨rfl, hb⟩; have HW3 := Aside0.mk (HP2.out.below hb).bel; clear hb)
    go_ret
    exact ⟨rfl, HW3.out⟩
  obtain ⟨hw, h0, h64⟩ := begE_zero hE
  obtain ⟨hbd, hsd, _⟩ := argOk_yes (checkP_parts (well_check hw)).1
  have hwt : wellS (turnP p) = 0 := by rw [well_turn hbd hsd, hw]
  have hE2 : begE (turnP p) D 0 [] = 0 := begE_ok hwt (by omega) (fun j hj => absurd hj (by simp))
  have hfb := HFB.out rfl
  obtain ⟨x, hs, _, hx⟩ := score_both p HMX.out D hfb.1 hfb.2
  obtain ⟨y, ht, _, hy⟩ := score_both (turnP p) (by show (turnS p.cells).size ≤ maxLen; rw [board_size (by exact (argOk_yes (checkP_parts (well_check hwt)).1).1)]; decide) D (fun _ => by show nP (turnS p.cells) ≤ 9; rw [nP_turn hbd]; exact hfb.1 hw) hfb.2
  have hxy : y = x := by
    rw [hx hE, hy hE2]
    exact worth_turn D.toNat p p.clock 0 hw
  subst hxy
  rw [hE] at hs HCK
  rw [hE2] at ht
  unfold ScoreIs at hs ht
  have HSC := Aside0.mk hs
  have HTC := Aside0.mk ht
  have HPT := Aside0.mk (fun W => pturn_c p hbd hsd W)
  clear hs ht hx hy hE hE2 hw hwt hbd hsd hfb h0 h64 HFB HF
  go_wp2_with fail
  refine (HCK.out _).mono ?_
  rintro e w2 ⟨rfl, hb⟩
  have HP2 := Aside0.mk (HP1.out.below hb)
  clear hb c0 c1 c2 c3
  obtain ⟨c0, c1, c2, c3⟩ := HP2.out.box
  go_wp2_with fail
  refine (HSC.out _ (HT.out _ HP2.out.bel)).mono ?_
  rintro e w3 ⟨rfl, hb⟩
  have HP3 := Aside0.mk (HP2.out.below hb)
  clear hb c0 c1 c2 c3
  obtain ⟨c0, c1, c2, c3⟩ := HP3.out.box
  go_wp2_with fail
  refine (HPT.out _).mono ?_
  rintro e w4 ⟨rfl, hb⟩
  have HP4 := Aside0.mk (HP3.out.below hb)
  clear hb c0 c1 c2 c3
  go_wp2_with fail
  refine (HTC.out _ (HT.out _ HP4.out.bel)).mono ?_
  rintro e w5 ⟨rfl, hb⟩
  have HP5 := Aside0.mk (HP4.out.below hb)
  clear hb
  go_wp2_with (go_at_call 8; refine (HLV.out _ (HT.out _ HP5.out.bel)).mono ?_; rintro e w6 ⟨rfl, hb⟩; have HW6 := Aside0.mk (HP5.out.below hb).bel; clear hb)
  go_ret
  exact ⟨rfl, HW6.out⟩
end Go.Proofs.YtafmapadkpjliaaGreatDoor.K

/- Flat types: what a value, and a slice's elements, of structs of numbers, bools and texts hold. No program in sight. -/
namespace Go.Proofs.YtafmapadkpjliaaGreatDoor.P
open Go Go.ChangeShapes Go.WideShapes
/-- The kind of one cell. -/
inductive FK where
  | int (k : IntKind)
  | bool
  | str
def FK.has : FK → Value → Prop
  | .int k, c => ∃ n, c = .int k n ∧ (Lit.int k n).wf = true
  | .bool, c => ∃ b, c = .bool b
  | .str, c => ∃ s : ByteArray, c = .string s ∧ s.size ≤ maxLen
/-- The kinds of a struct's cells, given those of its fields. -/
def flatFs (P : Program) (g : TypeId → Option (List FK)) : List Field → Nat → Option (List FK)
  | [], _ => some []
  | f :: r, off => (g f.type).bind fun a => if f.offset = off ∧ P.cellsOf f.type = a.length then (flatFs P g r (off + a.length)).map (a ++ ·) else none
def flatT (P : Program) : Nat → TypeId → Option (List FK)
  | 0, _ => none
  | d + 1, t => match P.underlying t with
    | some .bool => some [.bool]
    | some (.int k) => some [.int k]
    | some .string => some [.str]
    | some (.struct fs) => (flatFs P (flatT P d) fs.toList 0).bind fun ks => if P.cellsOf t = ks.length then some ks else none
    | _ => none
section
variable {H : Type} {enc : TypeId × Value → H} {P : Program} {w : World} {base : Nat} {spare : Nat → Bool} {held : Bool}
theorem flatFs_cells {g : TypeId → Option (List FK)} {n : Nat} {cs : List Value}
    (ih : ∀ t ks, g t = some ks → ∀ cs x, DataW.trod enc P w base spare held n t cs = some x → cs.length = ks.length ∧ ∀ (i : Nat) (k : FK) (c : Value), ks[i]? = some k → cs[i]? = some c → k.has c) :
    ∀ (l : List Field) (off : Nat) (ks : List FK), flatFs P g l off = some ks → (∀ f ∈ l, ∃ y, DataW.trod enc P w base spare held n f.type ((cs.drop f.offset).take (P.cellsOf f.type)) = some y) →
      ∀ (i : Nat) (k : FK) (c : Value), ks[i]? = some k → cs[off + i]? = some c → k.has c
  | [], off, ks, h, _, i, k, c, hk, _ => by
    simp only [flatFs, Option.some.injEq] at h
    subst h
    simp at hk
  | f :: r, off, ks, h, hy, i, k, c, hk, hc => by
    simp only [flatFs, Option.bind_eq_some_iff] at h
    obtain ⟨a, ha, h⟩ := h
    split at h
    · rename_i hh
      obtain ⟨h1, h2⟩ := hh
      simp only [Option.map_eq_some_iff] at h
      obtain ⟨b, hb, rfl⟩ := h
      obtain ⟨y, hy0⟩ := hy f (by simp)
      obtain ⟨hl, hh⟩ := ih _ _ ha _ _ hy0
      by_cases hi : i < a.length
      · rw [List.getElem?_append_left hi] at hk
        refine hh i k c hk ?_
        rw [List.getElem?_take, List.getElem?_drop, h1, h2, if_pos hi]
        exact hc
      · rw [List.getElem?_append_right (by omega)] at hk
        refine flatFs_cells ih r (off + a.length) b hb (fun f hf => hy f (by simp [hf])) (i - a.length) k c hk ?_
        rw [show off + a.length + (i - a.length) = off + i by omega]
        exact hc
    · cases h
theorem flat_cells : ∀ (d : Nat) (t : TypeId) (ks : List FK), flatT P d t = some ks → ∀ (n : Nat) (cs : List Value) (x : DataW H × List MemPlace), DataW.trod enc P w base spare held n t cs = some x →
    cs.length = ks.length ∧ ∀ (i : Nat) (k : FK) (c : Value), ks[i]? = some k → cs[i]? = some c → k.has c
  | 0, _, _, h => by simp [flatT] at h
  | d + 1, t, ks, h => by
    intro n cs x hx
    unfold flatT at h
    split at h
    · rename_i ht
      obtain rfl := Option.some.inj h
      obtain ⟨b, rfl, rfl⟩ := DataW.trod_bool ht hx
      refine ⟨rfl, fun i k c hk hc => ?_⟩
      match i with
      | 0 => simp at hk hc; subst hk hc; exact ⟨b, rfl⟩
      | i + 1 => simp at hk
    · rename_i k ht
      obtain rfl := Option.some.inj h
      obtain ⟨m, rfl, rfl, hw⟩ := DataW.trod_int ht hx
      refine ⟨rfl, fun i k c hk hc => ?_⟩
      match i with
      | 0 => simp at hk hc; subst hk hc; exact ⟨m, rfl, hw⟩
      | i + 1 => simp at hk
    · rename_i ht
      obtain rfl := Option.some.inj h
      obtain ⟨s, rfl, rfl, hs⟩ := DataW.trod_string ht hx
      refine ⟨rfl, fun i k c hk hc => ?_⟩
      match i with
      | 0 => simp at hk hc; subst hk hc; exact ⟨s, rfl, hs⟩
      | i + 1 => simp at hk
    · rename_i fs ht
      simp only [Option.bind_eq_some_iff] at h
      obtain ⟨ks', hks, h⟩ := h
      split at h
      · rename_i hsz
        obtain rfl := Option.some.inj h
        obtain ⟨xs, m, rfl, rfl, hlen, hxl, hf⟩ := DataW.trod_struct ht hx
        refine ⟨hlen.trans hsz, ?_⟩
        have := flatFs_cells (enc := enc) (w := w) (base := base) (spare := spare) (held := held) (n := m) (cs := cs) (fun t ks hg => flat_cells d t ks hg m) fs.toList 0 ks' hks (by
          intro f hfm
          obtain ⟨i, hi⟩ := List.getElem?_of_mem hfm
          have hfi : fs[i]? = some f := by simpa using hi
          have h1 := hf i f hfi
          have hlt : i < xs.length := by
            rw [hxl]
            rcases Nat.lt_or_ge i fs.size with h | h
            · exact h
            · simp [Array.getElem?_eq_none h] at hfi
          exact ⟨xs[i], h1.trans (List.getElem?_eq_getElem hlt)⟩)
        intro i k c hk hc
        exact this i k c hk (by simpa using hc)
      · cases h
    · cases h
/-- A slice of flat elements: its cells. -/
theorem flat_slice {t e : TypeId} {d : Nat} {ks : List FK} {n : Nat} {a : Option Addr} {len cap : Nat} {x : DataW H × List MemPlace} (ht : P.underlying t = some (.slice e)) (he : flatT P d e = some ks) (hc : P.cellsOf e = ks.length)
    (h : DataW.trod enc P w base spare held n t [.slice a len cap] = some x) :
    (a = none ∧ len = 0 ∧ cap = 0) ∨ ∃ ad, a = some ad ∧ len ≤ cap ∧ cap ≤ maxLen ∧ ∀ i, i < len → ∀ (j : Nat) (k : FK), ks[j]? = some k → ∃ c, w.cell? (ad.add (i * ks.length + j)) = some c ∧ k.has c := by
  rcases Deep.open_slice ht h with ⟨h0, _⟩ | ⟨ad, len', cap', m, n', D, Pl, h0, hb, hl, hm, hmm, _, hx⟩
  · simp at h0; exact .inl h0
  · simp only [List.cons.injEq, Value.slice.injEq, and_true] at h0
    obtain ⟨rfl, rfl, rfl⟩ := h0
    refine .inr ⟨ad, rfl, hl, hm, fun i hi j k hj => ?_⟩
    have hlm : len ≤ m := by rw [hmm]; split <;> omega
    obtain ⟨cs, h1, h2⟩ := hx i (by omega)
    obtain ⟨_, hlen, hcell⟩ := World.cells?_some h1
    obtain ⟨hcl, hch⟩ := flat_cells d e ks he _ _ _ h2
    have hjk : j < ks.length := by
      rcases Nat.lt_or_ge j ks.length with h | h
      · exact h
      · simp [List.getElem?_eq_none h] at hj
    have hjc : j < cs.length := by omega
    have := hcell j (by omega)
    rw [Deep.add_add, hc, List.getElem?_eq_getElem hjc] at this
    exact ⟨_, this, hch j k _ hj (List.getElem?_eq_getElem hjc)⟩
end
theorem list_cons {α : Type} {l : List α} {n : Nat} (h : l.length = n + 1) : ∃ x r, l = x :: r ∧ r.length = n := by
  cases l with
  | nil => simp at h
  | cons x r => exact ⟨x, r, rfl, by simpa using h⟩
theorem list_nil {α : Type} {l : List α} (h : l.length = 0) : l = [] := List.length_eq_zero_iff.1 h
theorem wf_u64 {n : Int} (h : (Lit.int .u64 n).wf = true) : 0 ≤ n := by
  simp only [Lit.wf, Bool.and_eq_true, decide_eq_true_eq] at h
  have h1 := h.1
  simp [IntKind.min, IntKind.signed] at h1
  exact h1
theorem wf_i64 {n : Int} (h : (Lit.int .i64 n).wf = true) : -9223372036854775808 ≤ n ∧ n ≤ 9223372036854775807 := by
  simp only [Lit.wf, Bool.and_eq_true, decide_eq_true_eq] at h
  obtain ⟨h1, h2⟩ := h
  simp [IntKind.min, IntKind.max, IntKind.signed, IntKind.bits] at h1 h2
  exact ⟨h1, h2⟩
theorem wf_u8 {n : Int} (h : (Lit.int .u8 n).wf = true) : 0 ≤ n ∧ n ≤ 255 := by
  simp only [Lit.wf, Bool.and_eq_true, decide_eq_true_eq] at h
  obtain ⟨h1, h2⟩ := h
  simp [IntKind.min, IntKind.max, IntKind.signed, IntKind.bits] at h1 h2
  exact ⟨h1, h2⟩
end Go.Proofs.YtafmapadkpjliaaGreatDoor.P
