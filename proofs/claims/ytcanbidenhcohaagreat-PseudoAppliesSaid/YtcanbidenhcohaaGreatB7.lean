/- Walks and plain laws that several statements lean on, joined: no statement of the seat is proved here. -/
import Derived.Deep.Cut
import Derived.Deep.CutRange
import Derived.Test.YtcanbidenhcohaaGreatB5
import Derived.Test.YtcanbidenhcohaaGreatB6

/- Walks: the reference's Moved. -/
namespace Go.Proofs.YtcanbidenhcohaaGreat.K
open Go.RowKit Go.Lib Go.Proofs.YtcanbidenhcohaaGreatW.PrintWords Go.Proofs.YtcanbidenhcohaaGreat.Sp
set_option linter.unusedVariables false
set_option linter.unusedSimpArgs false
attribute [local go_sem] cel_get   -- for this text's walks alone
set_option maxRecDepth 100000 in
set_option maxHeartbeats 4000000 in
theorem rmoved_c (s : ByteArray) (hs : s.size = 90) (a b : Nat) (ha : a < 90) (hb : b < 90) (w : World) : Calls Tryz.prog 27 #[.string s, .agg #[.int .i64 (a : Int), .int .i64 (b : Int)]] w fun e w' => e = .returned (.string (movedB s a b)) ∧ Below w.heap.size w w' := by
  have hu2 := Tryz.underlying30
  have HSZ := Aside0.mk hs
  have ha1 : (a : Int) < 90 := by omega
  have hb1 : (b : Int) < 90 := by omega
  have HAB := Aside0.mk (And.intro ha hb)
  clear hs ha hb
  go_enter Tryz.func27, Tryz.ntmps27
  have d0 : (w.alloc (.cells #[.int .i64 (a : Int), .int .i64 (b : Int)] 30)).cell? ⟨w.heap.size, 0, none⟩ = some (.int .i64 (a : Int)) := by simp [World.cell?_alloc_at]
  have d1 : (w.alloc (.cells #[.int .i64 (a : Int), .int .i64 (b : Int)] 30)).cell? ⟨w.heap.size, 1, none⟩ = some (.int .i64 (b : Int)) := by simp [World.cell?_alloc_at]
  have HW := Aside0.mk (below_alloc (Below.refl w.heap.size w) (.cells #[.int .i64 (a : Int), .int .i64 (b : Int)] 30))
  have hz0 : (w.alloc (.cells #[.int .i64 (a : Int), .int .i64 (b : Int)] 30)).heap.size = w.heap.size + 1 := by simp
  go_upto_region 1 with fail
  generalize w.alloc (.cells #[.int .i64 (a : Int), .int .i64 (b : Int)] 30) = W1 at *
  have kb := fun W => print_bytes (P := Tryz.prog) 9 45 5 Tryz.underlying9 Tryz.underlying45 Tryz.underlying5 s W
  go_wp2_with (simp only [kb])
  have HB := Aside0.mk (bytes_at_new W1 5 s)
  have HBW := bytes_below (Below.refl W1.heap.size W1) (Nat.le_refl _) 5 s
  have HLT := Aside0.mk (Lib.bytesWorld_size W1 5 s)
  have d0' := below_cell HBW _ _ _ d0
  have d1' := below_cell HBW _ _ _ d1
  have HW8 := Aside0.mk (below_go HW.out HBW)
  clear d0 d1 HBW
  generalize Lib.bytesWorld W1 5 s = w8 at *
  have hsz : (s.size : Int) = 90 := by rw [HSZ.out]; rfl
  obtain ⟨ka, fa⟩ := HB.out a (by rw [bytesOf_length, HSZ.out]; exact HAB.out.1)
  obtain ⟨kb2, fb⟩ := HB.out b (by rw [bytesOf_length, HSZ.out]; exact HAB.out.2)
  have HXA := Aside0.mk (show (bytesOf s).getD a 0 = (cel s a : Int) from bytes_getD s a (by rw [HSZ.out]; exact HAB.out.1))
  rw [HXA.out] at ka
  obtain ⟨ks, fs⟩ := (HB.out.set b (cel s a : Int)) a (by rw [List.length_set, bytesOf_length, HSZ.out]; exact HAB.out.1)
  generalize ((bytesOf s).set b (cel s a : Int)).getD a 0 = xs at ks
  generalize hxa : cel s a = xa at *
  generalize (bytesOf s).getD b 0 = xb at *
  have HB' := Aside0.mk (show BytesAt w8 (w.heap.size + 1) (bytesOf s) by rw [← hz0]; exact HB.out)
  rw [hz0] at ka fa kb2 fb ks fs
  have HLT' := Aside0.mk (show w.heap.size + 1 < w8.heap.size by rw [← hz0]; have := HLT.out; omega)
  have hne : w.heap.size + 1 ≠ w.heap.size := by omega
  clear kb HB HLT hz0
  go_region
  have hbs : BytesAt ((w8.setCell ⟨w.heap.size + 1, b, none⟩ (.int .u8 (xa : Int))).setCell ⟨w.heap.size + 1, a, none⟩ (.int .u8 46)).drew (w.heap.size + 1) (((bytesOf s).set b (xa : Int)).set a 46) := (HB'.out.set b (xa : Int)).set a 46
  have kc := bytes_string hbs 45 Tryz.underlying45 (cap := grownCap W1 s.size 0 5)
  rw [List.length_set, List.length_set, bytesOf_length] at kc
  have HMB := Aside0.mk (show movedB s a b = strOfNums (((bytesOf s).set b (xa : Int)).set a 46) by unfold movedB; rw [hxa])
  rw [← HMB.out] at kc
  have HBZ := Aside0.mk (show Below w.heap.size w ((w8.setCell ⟨w.heap.size + 1, b, none⟩ (.int .u8 (xa : Int))).setCell ⟨w.heap.size + 1, a, none⟩ (.int .u8 46)).drew from by (repeat' (first | (with_reducible exact Below.refl _ _) | (with_reducible refine pw_below_drewN ?_ _) | (with_reducible refine below_alloc ?_ _) | (with_reducible refine Below.drew ?_) | (with_reducible refine Below.setCell ?_ ?_ _) | (simp; done))) <;> first | exact HW8.out | (simp; done) | (simp; omega))
  clear hbs HMB HB'
  generalize hmb : movedB s a b = mb at *
  have HM2 := Aside0.mk hmb
  clear hmb
  go_wp2_with (simp only [kc])
  go_ret
  refine ⟨?_, HBZ.out⟩
  show Ending.returned (.string mb) = Ending.returned (.string (movedB s a b))
  rw [HM2.out]
/-! ### Apply -/
theorem gtr89 (x : Int) : decide (89 < x) = !decide (x < 90) := by
  by_cases h : x < 90
  · rw [decide_eq_true h, decide_eq_false (by omega)]; rfl
  · rw [decide_eq_false h, decide_eq_true (by omega)]; rfl
set_option maxRecDepth 100000 in
set_option maxHeartbeats 4000000 in
theorem rapply_no (p : Pos) (hmx : p.cells.size ≤ maxLen) (m : Mvi) (w : World) (hck : checkP p ≠ 0) : Calls Tryz.prog 12 #[posV p, mviV m] w (ApplyIs w p m) := by
  have HCK := Aside0.mk (fun W => rcheck_c p hmx W)
  have hu := Tryz.underlying23
  have hu2 := Tryz.underlying30
  have HR := Aside0.mk (show applyP p m = (zeroP, 0, checkP p) by unfold applyP; rw [if_pos hck])
  have h2 : (checkP p != 0) = true := by simpa using hck
  clear hck hmx
  generalize checkP p = ck at *
  go_enter Tryz.func12, Tryz.ntmps12
  go_wp2_with fail
  refine (HCK.out _).mono ?_
  rintro e w1 ⟨rfl, hb⟩
  have HA := Aside0.mk ((apat_new w p m).below hb)
  clear hb
  have fr := HA.out.fr
  have r0 := HA.out.r0
  have r1 := HA.out.r1
  have r2 := HA.out.r2
  have r3 := HA.out.r3
  go_wp2_with fail
  refine bodyPost_ret (by simp [results, Tryz.results12, go_sem, r0, r1, r2, r3]; try rfl) rfl ?_
  exact ⟨by rw [HR.out]; rfl, by (repeat' (first | (with_reducible exact Below.refl _ _) | (with_reducible refine pw_below_drewN ?_ _) | (with_reducible refine below_alloc ?_ _) | (with_reducible refine Below.drew ?_) | (with_reducible refine Below.setCell ?_ ?_ _) | (simp; done))) <;> first | exact HA.out.bel | (simp; done) | (simp; omega)⟩
/-- What the reference asks of a move. -/
def okR (p : Pos) (m : Mvi) : Prop := (0 ≤ m.frm ∧ m.frm < 90) ∧ (0 ≤ m.dest ∧ m.dest < 90) ∧ sideN (cel p.cells m.frm.toNat) = p.side ∧ fastN (cel p.cells) m.frm.toNat m.dest.toNat = true ∧ kindN (cel p.cells m.dest.toNat) ≠ 75
theorem ok_good {p : Pos} {m : Mvi} (hck : checkP p = 0) : goodM p m = true ↔ okR p m := by
  have hao := checkP_board hck
  obtain ⟨hbd, hsd, _⟩ := argOk_yes hao
  constructor
  · intro h
    obtain ⟨h1, h2, h3, hb, hf, hd⟩ := good_parts h
    obtain ⟨n, hn, he⟩ := List.any_eq_true.1 h3
    rw [beq_iff_eq] at he
    unfold allS at hn
    rw [if_pos ⟨hb, hf⟩] at hn
    have hx : atS p.cells m.frm = cel p.cells m.frm.toNat := by unfold atS; rw [if_pos ⟨hb, hf⟩]
    have hy : atS p.cells m.dest = cel p.cells m.dest.toNat := by unfold atS; rw [if_pos ⟨hb, hd⟩]
    rw [hx, beq_iff_eq] at h1
    rw [hy, beq_eq_false_iff_ne] at h2
    have hnn : m.dest.toNat = n := by omega
    have hn' : n ∈ (List.range 90).filter (fastN (cel p.cells) m.frm.toNat) := hn
    refine ⟨hf, hd, h1, ?_, h2⟩
    rw [hnn]
    exact (List.mem_filter.1 hn').2
  · rintro ⟨hf, hd, h1, h2, h3⟩
    have hx : atS p.cells m.frm = cel p.cells m.frm.toNat := by unfold atS; rw [if_pos ⟨hbd, hf⟩]
    have hy : atS p.cells m.dest = cel p.cells m.dest.toNat := by unfold atS; rw [if_pos ⟨hbd, hd⟩]
    have hl : allS p.cells m.frm = allN (cel p.cells) m.frm.toNat := by unfold allS; rw [if_pos ⟨hbd, hf⟩]
    unfold goodM
    rw [hx, hy, hl, h1]
    simp only [beq_self_eq_true, Bool.true_and, Bool.and_eq_true, bne_iff_ne, ne_eq]
    refine ⟨h3, List.any_eq_true.2 ⟨m.dest.toNat, List.mem_filter.2 ⟨List.mem_range.2 (by omega), h2⟩, ?_⟩⟩
    rw [beq_iff_eq]; omega
set_option maxRecDepth 100000 in
set_option maxHeartbeats 4000000 in
theorem rapply_bad (p : Pos) (m : Mvi) (w : World) (hck : checkP p = 0) (hg : ¬ okR p m) : Calls Tryz.prog 12 #[posV p, mviV m] w (ApplyIs w p m) := by
  obtain ⟨hbd, hsd, _⟩ := argOk_yes (checkP_board hck)
  have hsz := board_size hbd
  have HCK := Aside0.mk (fun W => rcheck_c p (by rw [hsz]; unfold maxLen; omega) W)
  rw [hck] at HCK
  have hu := Tryz.underlying23
  have hu2 := Tryz.underlying30
  have hgf : goodM p m = false := by
    cases h : goodM p m
    · rfl
    · exact absurd ((ok_good hck).1 h) hg
  have HR := Aside0.mk (show applyP p m = (zeroP, 0, 7) by unfold applyP; rw [if_neg (by simpa using hck), if_pos hgf])
  have HNO := Aside0.mk hg
  have HSZ := Aside0.mk hsz
  have HBD := Aside0.mk hbd
  clear hck hg hgf hbd hsd hsz
  obtain ⟨m1, m2⟩ := m
  have HQ := Aside0.mk (fun (n : Nat) W => rside_c (cel p.cells n) (cel_lt _ _) W)
  have HKQ := Aside0.mk (fun (n : Nat) W => rkind_c (cel p.cells n) (cel_lt _ _) W)
  have HFQ := Aside0.mk (fun (a b : Nat) ha hb W => rfast_c p.cells HBD.out a b ha hb W)
  by_cases g1 : m1 < 0
  · clear HNO
    go_enter Tryz.func12, Tryz.ntmps12
    go_wp2_with fail
    refine (HCK.out _).mono ?_
    rintro e w1 ⟨rfl, hb⟩
    have HA := Aside0.mk ((apat_new w p ⟨m1, m2⟩).below hb)
    clear hb
    have d0 := HA.out.d0
    have d1 := HA.out.d1
    have c0 := HA.out.c0
    have c1 := HA.out.c1
    go_wp2_with fail
    go_quiet (fail)
    have HA1 := Aside0.mk (HA.out.below (pw_below_drewN (Below.refl _ _) nq))
    have fr := HA1.out.fr
    have r0 := HA1.out.r0
    have r1 := HA1.out.r1
    have r2 := HA1.out.r2
    have r3 := HA1.out.r3
    generalize w1.drewN nq = w5 at *
    go_wp2_with fail
    refine bodyPost_ret (by simp [results, Tryz.results12, go_sem, r0, r1, r2, r3]; try rfl) rfl ?_
    exact ⟨by rw [HR.out]; rfl, by (repeat' (first | (with_reducible exact Below.refl _ _) | (with_reducible refine pw_below_drewN ?_ _) | (with_reducible refine below_alloc ?_ _) | (with_reducible refine Below.drew ?_) | (with_reducible refine Below.setCell ?_ ?_ _) | (simp; done))) <;> first | exact HA1.out.bel | (simp; done) | (simp; omega)⟩
  have k1 : decide (m1 < 0) = false := decide_eq_false g1
  by_cases g2 : 89 < m1
  · clear HNO g1
    go_enter Tryz.func12, Tryz.ntmps12
    go_wp2_with fail
    refine (HCK.out _).mono ?_
    rintro e w1 ⟨rfl, hb⟩
    have HA := Aside0.mk ((apat_new w p ⟨m1, m2⟩).below hb)
    clear hb
    have d0 := HA.out.d0
    have d1 := HA.out.d1
    have c0 := HA.out.c0
    have c1 := HA.out.c1
    go_wp2_with fail
    go_quiet (fail)
    have HA1 := Aside0.mk (HA.out.below (pw_below_drewN (Below.refl _ _) nq))
    have fr := HA1.out.fr
    have r0 := HA1.out.r0
    have r1 := HA1.out.r1
    have r2 := HA1.out.r2
    have r3 := HA1.out.r3
    generalize w1.drewN nq = w5 at *
    go_wp2_with fail
    refine bodyPost_ret (by simp [results, Tryz.results12, go_sem, r0, r1, r2, r3]; try rfl) rfl ?_
    exact ⟨by rw [HR.out]; rfl, by (repeat' (first | (with_reducible exact Below.refl _ _) | (with_reducible refine pw_below_drewN ?_ _) | (with_reducible refine below_alloc ?_ _) | (with_reducible refine Below.drew ?_) | (with_reducible refine Below.setCell ?_ ?_ _) | (simp; done))) <;> first | exact HA1.out.bel | (simp; done) | (simp; omega)⟩
  have k2 : decide (89 < m1) = false := decide_eq_false g2
  by_cases g3 : m2 < 0
  · clear HNO g1 g2
    go_enter Tryz.func12, Tryz.ntmps12
    go_wp2_with fail
    refine (HCK.out _).mono ?_
    rintro e w1 ⟨rfl, hb⟩
    have HA := Aside0.mk ((apat_new w p ⟨m1, m2⟩).below hb)
    clear hb
    have d0 := HA.out.d0
    have d1 := HA.out.d1
    have c0 := HA.out.c0
    have c1 := HA.out.c1
    go_wp2_with fail
    go_quiet (fail)
    have HA1 := Aside0.mk (HA.out.below (pw_below_drewN (Below.refl _ _) nq))
    have fr := HA1.out.fr
    have r0 := HA1.out.r0
    have r1 := HA1.out.r1
    have r2 := HA1.out.r2
    have r3 := HA1.out.r3
    generalize w1.drewN nq = w5 at *
    go_wp2_with fail
    refine bodyPost_ret (by simp [results, Tryz.results12, go_sem, r0, r1, r2, r3]; try rfl) rfl ?_
    exact ⟨by rw [HR.out]; rfl, by (repeat' (first | (with_reducible exact Below.refl _ _) | (with_reducible refine pw_below_drewN ?_ _) | (with_reducible refine below_alloc ?_ _) | (with_reducible refine Below.drew ?_) | (with_reducible refine Below.setCell ?_ ?_ _) | (simp; done))) <;> first | exact HA1.out.bel | (simp; done) | (simp; omega)⟩
  have k3 : decide (m2 < 0) = false := decide_eq_false g3
  by_cases g4 : 89 < m2
  · clear HNO g1 g2 g3
    go_enter Tryz.func12, Tryz.ntmps12
    go_wp2_with fail
    refine (HCK.out _).mono ?_
    rintro e w1 ⟨rfl, hb⟩
    have HA := Aside0.mk ((apat_new w p ⟨m1, m2⟩).below hb)
    clear hb
    have d0 := HA.out.d0
    have d1 := HA.out.d1
    have c0 := HA.out.c0
    have c1 := HA.out.c1
    go_wp2_with fail
    go_quiet (fail)
    have HA1 := Aside0.mk (HA.out.below (pw_below_drewN (Below.refl _ _) nq))
    have fr := HA1.out.fr
    have r0 := HA1.out.r0
    have r1 := HA1.out.r1
    have r2 := HA1.out.r2
    have r3 := HA1.out.r3
    generalize w1.drewN nq = w5 at *
    go_wp2_with fail
    refine bodyPost_ret (by simp [results, Tryz.results12, go_sem, r0, r1, r2, r3]; try rfl) rfl ?_
    exact ⟨by rw [HR.out]; rfl, by (repeat' (first | (with_reducible exact Below.refl _ _) | (with_reducible refine pw_below_drewN ?_ _) | (with_reducible refine below_alloc ?_ _) | (with_reducible refine Below.drew ?_) | (with_reducible refine Below.setCell ?_ ?_ _) | (simp; done))) <;> first | exact HA1.out.bel | (simp; done) | (simp; omega)⟩
  have k4 : decide (89 < m2) = false := decide_eq_false g4
  obtain ⟨a, rfl⟩ : ∃ a : Nat, m1 = a := ⟨m1.toNat, by omega⟩
  obtain ⟨b, rfl⟩ : ∃ b : Nat, m2 = b := ⟨m2.toNat, by omega⟩
  have ha : (a : Int) < (p.cells.size : Int) := by rw [HSZ.out]; omega
  have hb1 : (b : Int) < (p.cells.size : Int) := by rw [HSZ.out]; omega
  have HS1 := Aside0.mk (HQ.out a)
  have HK1 := Aside0.mk (HKQ.out b)
  have HF1 := Aside0.mk (HFQ.out a b (by omega) (by omega))
  have hno := HNO.out
  unfold okR at hno
  simp only [Int.toNat_natCast] at hno
  have q1 : ((kindN (cel p.cells b) : Int) == 75) = (kindN (cel p.cells b) == 75) := by rw [Bool.eq_iff_iff, beq_iff_eq, beq_iff_eq]; omega
  generalize hsd : sideN (cel p.cells a) = sd at *
  generalize hkd : kindN (cel p.cells b) = kd at *
  generalize fastN (cel p.cells) a b = ff at *
  clear HQ HKQ HFQ HNO hsd hkd
  cases h1 : (sd != p.side)
  case true =>
    clear g1 g2 g3 g4 hno q1
    go_enter Tryz.func12, Tryz.ntmps12
    go_wp2_with fail
    refine (HCK.out _).mono ?_
    rintro e w1 ⟨rfl, hb⟩
    have HA := Aside0.mk ((apat_new w p ⟨(a : Int), (b : Int)⟩).below hb)
    clear hb
    have d0 := HA.out.d0
    have d1 := HA.out.d1
    have c0 := HA.out.c0
    have c1 := HA.out.c1
    go_wp2_with fail
    go_quiet (first | (go_at_call 24; exact Calls.quiet_of_same (HS1.out _)))
    have HA1 := Aside0.mk (HA.out.below (pw_below_drewN (Below.refl _ _) nq))
    have fr := HA1.out.fr
    have r0 := HA1.out.r0
    have r1 := HA1.out.r1
    have r2 := HA1.out.r2
    have r3 := HA1.out.r3
    generalize w1.drewN nq = w5 at *
    go_wp2_with fail
    refine bodyPost_ret (by simp [results, Tryz.results12, go_sem, r0, r1, r2, r3]; try rfl) rfl ?_
    exact ⟨by rw [HR.out]; rfl, by (repeat' (first | (with_reducible exact Below.refl _ _) | (with_reducible refine pw_below_drewN ?_ _) | (with_reducible refine below_alloc ?_ _) | (with_reducible refine Below.drew ?_) | (with_reducible refine Below.setCell ?_ ?_ _) | (simp; done))) <;> first | exact HA1.out.bel | (simp; done) | (simp; omega)⟩
  case false =>
  cases ff
  case false =>
    clear g1 g2 g3 g4 hno q1
    go_enter Tryz.func12, Tryz.ntmps12
    go_wp2_with fail
    refine (HCK.out _).mono ?_
    rintro e w1 ⟨rfl, hb⟩
    have HA := Aside0.mk ((apat_new w p ⟨(a : Int), (b : Int)⟩).below hb)
    clear hb
    have d0 := HA.out.d0
    have d1 := HA.out.d1
    have c0 := HA.out.c0
    have c1 := HA.out.c1
    go_wp2_with fail
    go_quiet (first | (go_at_call 24; exact Calls.quiet_of_same (HS1.out _)) | (go_at_call 25; exact Calls.quiet_of_same (HF1.out _)))
    have HA1 := Aside0.mk (HA.out.below (pw_below_drewN (Below.refl _ _) nq))
    have fr := HA1.out.fr
    have r0 := HA1.out.r0
    have r1 := HA1.out.r1
    have r2 := HA1.out.r2
    have r3 := HA1.out.r3
    generalize w1.drewN nq = w5 at *
    go_wp2_with fail
    refine bodyPost_ret (by simp [results, Tryz.results12, go_sem, r0, r1, r2, r3]; try rfl) rfl ?_
    exact ⟨by rw [HR.out]; rfl, by (repeat' (first | (with_reducible exact Below.refl _ _) | (with_reducible refine pw_below_drewN ?_ _) | (with_reducible refine below_alloc ?_ _) | (with_reducible refine Below.drew ?_) | (with_reducible refine Below.setCell ?_ ?_ _) | (simp; done))) <;> first | exact HA1.out.bel | (simp; done) | (simp; omega)⟩
  case true =>
    have hk : kd = 75 := by
      by_cases h : kd = 75
      · exact h
      · exact absurd ⟨⟨by omega, by omega⟩, ⟨by omega, by omega⟩, by simpa using h1, rfl, h⟩ hno
    subst hk
    clear g1 g2 g3 g4 hno q1
    go_enter Tryz.func12, Tryz.ntmps12
    go_wp2_with fail
    refine (HCK.out _).mono ?_
    rintro e w1 ⟨rfl, hb⟩
    have HA := Aside0.mk ((apat_new w p ⟨(a : Int), (b : Int)⟩).below hb)
    clear hb
    have d0 := HA.out.d0
    have d1 := HA.out.d1
    have c0 := HA.out.c0
    have c1 := HA.out.c1
    go_wp2_with fail
    go_quiet (first | (go_at_call 24; exact Calls.quiet_of_same (HS1.out _)) | (go_at_call 25; exact Calls.quiet_of_same (HF1.out _)) | (go_at_call 26; exact Calls.quiet_of_same (HK1.out _)))
    have HA1 := Aside0.mk (HA.out.below (pw_below_drewN (Below.refl _ _) nq))
    have fr := HA1.out.fr
    have r0 := HA1.out.r0
    have r1 := HA1.out.r1
    have r2 := HA1.out.r2
    have r3 := HA1.out.r3
    generalize w1.drewN nq = w5 at *
    go_wp2_with fail
    refine bodyPost_ret (by simp [results, Tryz.results12, go_sem, r0, r1, r2, r3]; try rfl) rfl ?_
    exact ⟨by rw [HR.out]; rfl, by (repeat' (first | (with_reducible exact Below.refl _ _) | (with_reducible refine pw_below_drewN ?_ _) | (with_reducible refine below_alloc ?_ _) | (with_reducible refine Below.drew ?_) | (with_reducible refine Below.setCell ?_ ?_ _) | (simp; done))) <;> first | exact HA1.out.bel | (simp; done) | (simp; omega)⟩
end Go.Proofs.YtcanbidenhcohaaGreat.K

/- Walks: the reference's Apply; PseudoApplies. -/
namespace Go.Proofs.YtcanbidenhcohaaGreat.K
open Go.RowKit Go.Lib Go.Proofs.YtcanbidenhcohaaGreatW.PrintWords Go.Proofs.YtcanbidenhcohaaGreat.Sp
set_option linter.unusedVariables false
set_option linter.unusedSimpArgs false
attribute [local go_sem] cel_get   -- for this text's walks alone
/-- The new position's box beside the others. -/
structure QbAt (w0 W : World) (p : Pos) (m : Mvi) (q : Pos) (qb : Nat) : Prop where
  ap : ApAt w0 W p m
  box : BoxP W qb q
  fz : ∀ k, W.frozen? ⟨qb, k, none⟩ = false
  lt : w0.heap.size + 2 < qb
theorem QbAt.mk1 {w0 W : World} {p : Pos} {m : Mvi} (h : ApAt w0 W p m) (q : Pos) : QbAt w0 (W.alloc (.cells #[.string q.cells, .int .i64 q.side, .int .i64 q.clock, .int .i64 q.full] 23)) p m q W.heap.size :=
  ⟨h.below (below_alloc (Below.refl _ _) _), BoxP.new W q, fun k => World.frozen?_alloc_at _ _ _ k rfl, h.lt⟩
theorem QbAt.mk2 {w0 W : World} {p : Pos} {m : Mvi} {qb : Nat} (h : ApAt w0 W p m) (hl : w0.heap.size + 2 < qb) (z0 : W.cell? ⟨qb, 0, none⟩ = some (.string { data := #[] })) (z1 : W.cell? ⟨qb, 1, none⟩ = some (.int .i64 0)) (z2 : W.cell? ⟨qb, 2, none⟩ = some (.int .i64 0)) (z3 : W.cell? ⟨qb, 3, none⟩ = some (.int .i64 0)) (zf : ∀ k, W.frozen? ⟨qb, k, none⟩ = false) (q : Pos) :
    QbAt w0 ((((W.setCell ⟨qb, 0, none⟩ (.string q.cells)).setCell ⟨qb, 1, none⟩ (.int .i64 q.side)).setCell ⟨qb, 2, none⟩ (.int .i64 q.clock)).setCell ⟨qb, 3, none⟩ (.int .i64 q.full)) p m q qb :=
  ⟨h.upto (n := qb) hl (Below.setCell (p := ⟨qb, 3, none⟩) (Below.setCell (p := ⟨qb, 2, none⟩) (Below.setCell (p := ⟨qb, 1, none⟩) (Below.setCell (p := ⟨qb, 0, none⟩) (Below.refl _ _) (Nat.le_refl _) _) (Nat.le_refl _) _) (Nat.le_refl _) _) (Nat.le_refl _) _), ⟨by simp [go_sem, z0, z1, z2, z3], by simp [go_sem, z0, z1, z2, z3], by simp [go_sem, z0, z1, z2, z3], by simp [go_sem, z0, z1, z2, z3]⟩, fun k => by simp [go_sem, zf], hl⟩
/-- A new position's box behind a call. -/
theorem qz_new (W W' : World) (hb : Below (W.alloc (.cells #[.string { data := #[] }, .int .i64 0, .int .i64 0, .int .i64 0] 23)).heap.size (W.alloc (.cells #[.string { data := #[] }, .int .i64 0, .int .i64 0, .int .i64 0] 23)) W') :
    W'.cell? ⟨W.heap.size, 0, none⟩ = some (.string { data := #[] }) ∧ W'.cell? ⟨W.heap.size, 1, none⟩ = some (.int .i64 0) ∧ W'.cell? ⟨W.heap.size, 2, none⟩ = some (.int .i64 0) ∧ W'.cell? ⟨W.heap.size, 3, none⟩ = some (.int .i64 0) ∧ ∀ k, W'.frozen? ⟨W.heap.size, k, none⟩ = false := by
  have hl : W.heap.size < (W.alloc (.cells #[.string { data := #[] }, .int .i64 0, .int .i64 0, .int .i64 0] 23)).heap.size := by simp
  exact ⟨(hb.cell (p := ⟨W.heap.size, 0, none⟩) hl).trans (by simp [World.cell?_alloc_at]), (hb.cell (p := ⟨W.heap.size, 1, none⟩) hl).trans (by simp [World.cell?_alloc_at]), (hb.cell (p := ⟨W.heap.size, 2, none⟩) hl).trans (by simp [World.cell?_alloc_at]), (hb.cell (p := ⟨W.heap.size, 3, none⟩) hl).trans (by simp [World.cell?_alloc_at]), fun k => (hb.frozen (p := ⟨W.heap.size, k, none⟩) hl).trans (World.frozen?_alloc_at _ _ _ k rfl)⟩
set_option maxRecDepth 100000 in
set_option maxHeartbeats 4000000 in
theorem rapply_ok (p : Pos) (m : Mvi) (w : World) (hck : checkP p = 0) (hg : okR p m) : Calls Tryz.prog 12 #[posV p, mviV m] w (ApplyIs w p m) := by
  obtain ⟨hbd, hsd0, q1, q2, q3, q4⟩ := argOk_yes (checkP_board hck)
  have hsz := board_size hbd
  have HCK := Aside0.mk (fun W => rcheck_c p (by rw [hsz]; unfold maxLen; omega) W)
  rw [hck] at HCK
  have hu := Tryz.underlying23
  have hu2 := Tryz.underlying30
  have hgt := (ok_good hck).2 hg
  obtain ⟨m1, m2⟩ := m
  obtain ⟨⟨f0, f1⟩, ⟨g0, g1⟩, h1, h2, h3⟩ := hg
  simp only at f0 f1 g0 g1 h1 h2 h3
  obtain ⟨a, rfl⟩ : ∃ a : Nat, m1 = a := ⟨m1.toNat, by omega⟩
  obtain ⟨b, rfl⟩ : ∃ b : Nat, m2 = b := ⟨m2.toNat, by omega⟩
  simp only [Int.toNat_natCast] at h1 h2 h3
  have hatb : atS p.cells (b : Int) = cel p.cells b := by unfold atS; rw [if_pos ⟨hbd, g0, g1⟩]; rfl
  have HR := Aside0.mk (show applyP p ⟨a, b⟩ = (⟨movedB p.cells a b, 1 - p.side, if cel p.cells b = 46 then min (p.clock + 1) 120 else 0, if p.side = 1 then min (p.full + 1) 9999 else p.full⟩, if cel p.cells b = 46 then 0 else cel p.cells b, 0) by
    unfold applyP
    rw [if_neg (by simpa using hck), if_neg (by rw [hgt]; simp)]
    simp only
    rw [hatb]
    rfl)
  have HMV := Aside0.mk (fun W => rmoved_c p.cells hsz a b (by omega) (by omega) W)
  have HS1 := Aside0.mk (fun W => rside_c (cel p.cells a) (cel_lt _ _) W)
  have HK1 := Aside0.mk (fun W => rkind_c (cel p.cells b) (cel_lt _ _) W)
  have HF1 := Aside0.mk (fun W => rfast_c p.cells hbd a b (by omega) (by omega) W)
  rw [h1] at HS1
  rw [h2] at HF1
  have k1 : decide ((a : Int) < 0) = false := decide_eq_false (by omega)
  have k2 : decide (89 < (a : Int)) = false := decide_eq_false (by omega)
  have k3 : decide ((b : Int) < 0) = false := decide_eq_false (by omega)
  have k4 : decide (89 < (b : Int)) = false := decide_eq_false (by omega)
  have ha : (a : Int) < (p.cells.size : Int) := by rw [hsz]; omega
  have hb1 : (b : Int) < (p.cells.size : Int) := by rw [hsz]; omega
  have hk75 : ((kindN (cel p.cells b) : Int) == 75) = false := by rw [beq_eq_false_iff_ne]; omega
  have hs0 : 0 ≤ p.side := by omega
  have hs1 : p.side ≤ 1 := by omega
  have HY := Aside0.mk (bne46 (cel p.cells b))
  have hyl := cel_lt p.cells b
  generalize kindN (cel p.cells b) = kd at *
  generalize movedB p.cells a b = mb at *
  generalize hyy : cel p.cells b = y at *
  have e1 : wrap64 (1 - p.side) = 1 - p.side := by unfold wrap64; omega
  have e2 : IntKind.i64.wrap (1 - p.side) = 1 - p.side := by rw [IntKind.wrap_i64]; omega
  have e3 : wrap64 (p.clock + 1) = p.clock + 1 := by unfold wrap64; omega
  have e4 : IntKind.i64.wrap (p.clock + 1) = p.clock + 1 := by rw [IntKind.wrap_i64]; omega
  have hc1 : p.clock ≤ 120 := q2
  clear hck hgt h1 h2 h3 hatb hbd hsz hsd0 f0 f1 g0 g1
  go_enter Tryz.func12, Tryz.ntmps12
  go_wp2_with fail
  refine (HCK.out _).mono ?_
  rintro e w1 ⟨rfl, hb⟩
  have HA := Aside0.mk ((apat_new w p ⟨(a : Int), (b : Int)⟩).below hb)
  clear hb
  have d0 := HA.out.d0
  have d1 := HA.out.d1
  have c0 := HA.out.c0
  have c1 := HA.out.c1
  go_wp2_with fail
  go_quiet (first | (go_at_call 24; exact Calls.quiet_of_same (HS1.out _)) | (go_at_call 25; exact Calls.quiet_of_same (HF1.out _)) | (go_at_call 26; exact Calls.quiet_of_same (HK1.out _)))
  have HA1 := Aside0.mk (HA.out.below (pw_below_drewN (Below.refl _ _) nq))
  clear HA d0 d1 c0 c1 k1 k2 k3 k4 hk75
  generalize w1.drewN nq = w5 at *
  have c0 := HA1.out.c0
  have c1 := HA1.out.c1
  have c2 := HA1.out.c2
  have c3 := HA1.out.c3
  have d0 := HA1.out.d0
  have d1 := HA1.out.d1
  go_upto_region 6 with fail
  have HA2 := Aside0.mk HA1.out.drew
  clear HA1
  go_cut [8] from 65 to 78 (fun s8 wx => ∃ qb : Nat, s8 = .pointer (some ⟨qb, 0, none⟩) ∧ Aside0 (QbAt w wx p ⟨(a : Int), (b : Int)⟩ ⟨mb, 1 - p.side, min (p.clock + 1) 120, p.full⟩ qb))
  case first =>
    go_region_held3 (fun W => W.cell? ⟨w.heap.size, 0, none⟩ = some (.string p.cells) ∧ W.cell? ⟨w.heap.size, 1, none⟩ = some (.int .i64 p.side) ∧ W.cell? ⟨w.heap.size, 2, none⟩ = some (.int .i64 p.clock) ∧ W.cell? ⟨w.heap.size, 3, none⟩ = some (.int .i64 p.full) ∧ W.cell? ⟨w.heap.size + 1, 0, none⟩ = some (.int .i64 (a : Int)) ∧ W.cell? ⟨w.heap.size + 1, 1, none⟩ = some (.int .i64 (b : Int))) (go_keep)
        (first
          | (go_at_call 27; (with_reducible refine (HMV.out w5.drew).mono ?_); rintro e w6 ⟨rfl, hb⟩; have HA3 := Aside0.mk (HA2.out.below hb); clear HA2 hb c0 c1 c2 c3 d0 d1; have c0 := HA3.out.c0; have c1 := HA3.out.c1; have c2 := HA3.out.c2; have c3 := HA3.out.c3; have d0 := HA3.out.d0; have d1 := HA3.out.d1; have n0 : w6.heap.size ≠ w.heap.size := World.new_ne w6 _ c0; have n1 : w6.heap.size ≠ w.heap.size + 1 := World.new_ne w6 _ d0)
          | (go_at_call 27; (with_reducible refine (HMV.out _).mono ?_); rintro e w6 ⟨rfl, hb⟩; have HZ := Aside0.mk (qz_new w5.drew w6 hb); have HL5 := Aside0.mk (show w.heap.size + 2 < w5.heap.size from HA2.out.lt); have HA3 := Aside0.mk ((HA2.out.below (below_alloc (Below.refl _ _) _)).below hb); have n0 : w5.heap.size ≠ w.heap.size := World.new_ne w5 _ c0; have n1 : w5.heap.size ≠ w.heap.size + 1 := World.new_ne w5 _ d0; clear HA2 hb c0 c1 c2 c3 d0 d1; have c0 := HA3.out.c0; have c1 := HA3.out.c1; have c2 := HA3.out.c2; have c3 := HA3.out.c3; have d0 := HA3.out.d0; have d1 := HA3.out.d1; have z0 : w6.cell? ⟨w5.heap.size, 0, none⟩ = some (.string { data := #[] }) := HZ.out.1; have z1 : w6.cell? ⟨w5.heap.size, 1, none⟩ = some (.int .i64 0) := HZ.out.2.1; have z2 : w6.cell? ⟨w5.heap.size, 2, none⟩ = some (.int .i64 0) := HZ.out.2.2.1; have z3 : w6.cell? ⟨w5.heap.size, 3, none⟩ = some (.int .i64 0) := HZ.out.2.2.2.1; have zf : ∀ k, w6.frozen? ⟨w5.heap.size, k, none⟩ = false := HZ.out.2.2.2.2))
    all_goals
      go_wp2_with fail
      go_meet
      first
      | exact ⟨_, rfl, ⟨QbAt.mk1 HA3.out ⟨mb, 1 - p.side, min (p.clock + 1) 120, p.full⟩⟩⟩
      | exact ⟨_, rfl, ⟨QbAt.mk2 HA3.out HL5.out z0 z1 z2 z3 zf ⟨mb, 1 - p.side, min (p.clock + 1) 120, p.full⟩⟩⟩
  case rest =>
  obtain ⟨qb, rfl, HQ⟩ := hcut
  clear c0 c1 c2 c3 d0 d1 HA2 HCK HS1 HF1 HK1 HMV e1 e2 e3 e4 hu2
  obtain ⟨HAP, ⟨b0, b1, b2, b3⟩, fq, hqb⟩ := HQ.out
  have HAP := Aside0.mk HAP
  have m1 : qb ≠ w.heap.size := by omega
  have m2 : qb ≠ w.heap.size + 1 := by omega
  have m3 : qb ≠ w.heap.size + 1 + 1 := by omega
  have HQB := Aside0.mk hqb
  have c0 := HAP.out.c0
  have c1 := HAP.out.c1
  have d1 := HAP.out.d1
  have r0 := HAP.out.r0
  have r1 := HAP.out.r1
  have r2 := HAP.out.r2
  have r3 := HAP.out.r3
  have fr := HAP.out.fr
  have hy := HY.out
  clear HQ hqb
  cases hz : (y != 46)
  all_goals
    rw [hz] at hy
    have HY46 := Aside0.mk hz
    clear hz
    cases hs : (p.side == 1)
    all_goals
      have HS1 := Aside0.mk hs
      go_wp2_with fail
      refine bodyPost_ret (by simp [results, Tryz.results12, go_sem, r0, r1, r2, r3, m1, m2, m3, Ne.symm m3]; try rfl) rfl ?_
      have hle := HQB.out
      refine ⟨?_, by (repeat' (first | (with_reducible exact Below.refl _ _) | (with_reducible refine pw_below_drewN ?_ _) | (with_reducible refine below_alloc ?_ _) | (with_reducible refine Below.drew ?_) | (with_reducible refine Below.setCell ?_ ?_ _) | (simp; done))) <;> first | exact HAP.out.bel | (simp; done) | (simp; omega)⟩
      rw [HR.out]
      have y1 := HY46.out
      have s1 := HS1.out
      simp only [bne_iff_ne, ne_eq, bne_eq_false_iff_eq, beq_iff_eq, beq_eq_false_iff_ne] at y1 s1
      simp [y1, s1]
theorem rapply_c (p : Pos) (hmx : p.cells.size ≤ maxLen) (m : Mvi) (w : World) : Calls Tryz.prog 12 #[posV p, mviV m] w (ApplyIs w p m) := by
  by_cases h1 : checkP p = 0
  · by_cases h2 : okR p m
    · exact rapply_ok p m w h1 h2
    · exact rapply_bad p m w h1 h2
  · exact rapply_no p hmx m w h1
end Go.Proofs.YtcanbidenhcohaaGreat.K

/- PseudoApplies: the walk. -/
namespace Go.Proofs.YtcanbidenhcohaaGreat.K
open Go.RowKit Go.Lib Go.Proofs.YtcanbidenhcohaaGreatW.PrintWords Go.Proofs.YtcanbidenhcohaaGreat.Sp
set_option linter.unusedVariables false
set_option linter.unusedSimpArgs false
/-- The boxes of the law's arguments. -/
structure PmAt (w0 W : World) (p : Pos) (m : Mvi) : Prop where
  box : BoxP W w0.heap.size p
  d0 : W.cell? ⟨w0.heap.size + 1, 0, none⟩ = some (.int .i64 m.frm)
  d1 : W.cell? ⟨w0.heap.size + 1, 1, none⟩ = some (.int .i64 m.dest)
  bel : Below w0.heap.size w0 W
theorem PmAt.below {w0 W W' : World} {p : Pos} {m : Mvi} (h : PmAt w0 W p m) (hb : Below W.heap.size W W') : PmAt w0 W' p m := ⟨h.box.below hb, below_cell hb _ _ _ h.d0, below_cell hb _ _ _ h.d1, below_go h.bel hb⟩
theorem PmAt.new (w : World) (p : Pos) (m : Mvi) : PmAt w ((w.alloc (.cells #[.string p.cells, .int .i64 p.side, .int .i64 p.clock, .int .i64 p.full] 23)).alloc (.cells #[.int .i64 m.frm, .int .i64 m.dest] 30)) p m :=
  ⟨(BoxP.new w p).below (below_alloc (Below.refl _ _) _), by simp [World.cell?_alloc_at], by simp [World.cell?_alloc_at], below_new (below_new (Below.refl _ _) _) _⟩
set_option maxRecDepth 100000 in
set_option maxHeartbeats 4000000 in
theorem appliesLaw (w : World) (p : Pos) (m : Mvi) (hmx : p.cells.size ≤ maxLen) : Calls Tryz.prog 4 #[posV p, mviV m] w fun e w' => e = .returned (.bool true) ∧ Below w.heap.size w w' := by
  have HLV := Aside0.mk (fun W => live_c W)
  have hu := Tryz.underlying23
  have hu2 := Tryz.underlying30
  have HP0 := Aside0.mk (PmAt.new w p m)
  by_cases h200 : p.cells.size > 200
  · have h1 : (200 : Int) < (p.cells.size : Int) := by omega
    clear h200 hmx
    go_enter Tryz.func4, Tryz.ntmps4
    go_wp2_with (go_at_call 5; refine (HLV.out _).mono ?_; rintro e w1 ⟨rfl, hb⟩; have HW1 := Aside0.mk (below_go HP0.out.bel hb); clear hb)
    go_ret
    exact ⟨rfl, HW1.out⟩
  have h1 : (p.cells.size : Int) ≤ 200 := by omega
  have HAP := Aside0.mk (fun W => apply_c p m W)
  have HRA := Aside0.mk (fun W => rapply_c p hmx m W)
  unfold ApplyIs at HAP HRA
  generalize applyP p m = r at *
  obtain ⟨⟨q0, q1, q2, q3⟩, c, ee⟩ := r
  simp only at HAP HRA
  clear h200 hmx
  go_enter Tryz.func4, Tryz.ntmps4
  go_wp2_with fail
  refine (HAP.out _).mono ?_
  rintro e w1 ⟨rfl, hb⟩
  have HP1 := Aside0.mk (HP0.out.below hb)
  clear hb HP0
  have HQ1 := Aside0.mk (BoxP.new w1 ⟨q0, q1, q2, q3⟩)
  obtain ⟨⟨e0, e1, e2, e3⟩, d0, d1, _⟩ := HP1.out
  have hl0 : w.heap.size < w1.heap.size := World.block_lt_of_cell? _ _ e0
  have hl1 : w.heap.size + 1 < w1.heap.size := World.block_lt_of_cell? _ _ d0
  go_wp2_with fail
  refine (HRA.out _).mono ?_
  rintro e w2 ⟨rfl, hb⟩
  have HP2 := Aside0.mk ((HP1.out.below (below_alloc (Below.refl _ _) _)).below hb)
  have HQ2 := Aside0.mk (HQ1.out.below hb)
  clear hb HP1 HQ1 e0 e1 e2 e3 d0 d1 hl0 hl1
  obtain ⟨f0, f1, f2, f3⟩ := HQ2.out
  have hl2 : w1.heap.size < w2.heap.size := World.block_lt_of_cell? _ _ f0
  generalize w1.heap.size = qb at *
  go_wp2_with (go_at_call 5; refine (HLV.out _).mono ?_; rintro e w3 ⟨rfl, hb⟩; have HP3 := Aside0.mk ((HP2.out.below (below_alloc (Below.refl _ _) _)).below hb); clear hb)
  go_ret
  exact ⟨rfl, HP3.out.bel⟩
end Go.Proofs.YtcanbidenhcohaaGreat.K
