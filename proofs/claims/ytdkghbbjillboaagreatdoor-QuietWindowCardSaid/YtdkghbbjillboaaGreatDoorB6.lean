/- Walks and plain laws that several statements lean on, joined: no statement of the seat is proved here. -/
import Derived.Deep.Cut
import Derived.Shelf.SlIterI.Collect
import Derived.RangeFuncNested
import Derived.RangeFuncBound
import Derived.RangeFuncCalls
import Derived.RangeFuncLeaves
import Derived.Shelf.Abstract
import Derived.Shelf.RegionOpen
import Derived.WalkKit
import Derived.OwnWalkIn
import Derived.TacticsInMore
import Derived.LoopNIn
import Derived.LoopIn
import Derived.StillTailTactics
import Derived.Test.YtdkghbbjillboaaGreatDoorB5
import Derived.Test.YtdkghbbjillboaaGreatDoorB2

/- Walk: pseudo.Apply, where it is done. -/
namespace Go.Proofs.YtdkghbbjillboaaGreatDoor.K
open Go.RowKit Go.Lib Go.Proofs.YtdkghbbjillboaaGreatDoorW.PrintWords Go.Proofs.YtdkghbbjillboaaGreatDoor.Sp
set_option linter.unusedVariables false
set_option linter.unusedSimpArgs false
attribute [local go_sem] cel_get   -- for this text's walks alone
theorem ApAt.upto {w0 W W' : World} {p : Pos} {m : Mvi} {n : Nat} (h : ApAt w0 W p m) (hn : w0.heap.size + 1 + 1 < n) (hb : Below n W W') : ApAt w0 W' p m :=
  ⟨(hb.cell (p := ⟨w0.heap.size, 0, none⟩) (by show w0.heap.size < n; omega)).trans h.c0, (hb.cell (p := ⟨w0.heap.size, 1, none⟩) (by show w0.heap.size < n; omega)).trans h.c1, (hb.cell (p := ⟨w0.heap.size, 2, none⟩) (by show w0.heap.size < n; omega)).trans h.c2, (hb.cell (p := ⟨w0.heap.size, 3, none⟩) (by show w0.heap.size < n; omega)).trans h.c3, (hb.cell (p := ⟨w0.heap.size + 1, 0, none⟩) (by show w0.heap.size + 1 < n; omega)).trans h.d0, (hb.cell (p := ⟨w0.heap.size + 1, 1, none⟩) (by show w0.heap.size + 1 < n; omega)).trans h.d1, (hb.cell (p := ⟨w0.heap.size + 1 + 1, 0, none⟩) (by show w0.heap.size + 1 + 1 < n; omega)).trans h.r0, (hb.cell (p := ⟨w0.heap.size + 1 + 1, 1, none⟩) (by show w0.heap.size + 1 + 1 < n; omega)).trans h.r1, (hb.cell (p := ⟨w0.heap.size + 1 + 1, 2, none⟩) (by show w0.heap.size + 1 + 1 < n; omega)).trans h.r2, (hb.cell (p := ⟨w0.heap.size + 1 + 1, 3, none⟩) (by show w0.heap.size + 1 + 1 < n; omega)).trans h.r3, fun k => (hb.frozen (p := ⟨w0.heap.size, k, none⟩) (by show w0.heap.size < n; omega)).trans (h.fp k), fun k => (hb.frozen (p := ⟨w0.heap.size + 1 + 1, k, none⟩) (by show w0.heap.size + 1 + 1 < n; omega)).trans (h.fr k), h.bel.trans (hb.mono (by omega)), Nat.lt_of_lt_of_le h.lt hb.size⟩
theorem bytes_getD (s : ByteArray) (i : Nat) (h : i < s.size) : (bytesOf s).getD i 0 = (cel s i : Int) := by
  have h' : i < s.data.toList.length := by rw [data_length]; exact h
  rw [← cel_get s i h]
  simp [bytesOf, List.getD_eq_getElem?_getD, List.getElem?_eq_getElem h']
  rfl
theorem good_parts {p : Pos} {m : Mvi} (h : goodM p m = true) : (sideN (atS p.cells m.frm) == p.side) = true ∧ (kindN (atS p.cells m.dest) == 75) = false ∧ (allS p.cells m.frm).any (fun n => (n : Int) == m.dest) = true ∧ isBoard p.cells = true ∧ (0 ≤ m.frm ∧ m.frm < 90) ∧ (0 ≤ m.dest ∧ m.dest < 90) := by
  unfold goodM at h
  simp only [Bool.and_eq_true, bne, Bool.not_eq_true'] at h
  obtain ⟨h1, h2, h3⟩ := h
  refine ⟨h1, h2, h3, ?_⟩
  obtain ⟨n, hn, he⟩ := List.any_eq_true.1 h3
  rw [beq_iff_eq] at he
  unfold allS at hn
  split at hn
  · rename_i hb
    have := allN_lt _ _ n hn
    exact ⟨hb.1, hb.2, by omega, by omega⟩
  · simp at hn
set_option maxRecDepth 100000 in
set_option maxHeartbeats 4000000 in
theorem apply_ok (p : Pos) (m : Mvi) (w : World) (hck : checkP p = 0) (hg : goodM p m = true) : Calls Tryz.prog 74 #[posV p, mviV m] w (ApplyIs w p m) := by
  obtain ⟨h1, h2, h3, hb, hf, hd⟩ := good_parts hg
  obtain ⟨m1, m2⟩ := m
  simp only at hf hd h1 h2 h3
  obtain ⟨a, rfl⟩ := Int.eq_ofNat_of_zero_le hf.1
  obtain ⟨b, rfl⟩ := Int.eq_ofNat_of_zero_le hd.1
  have hf1 := hf.2
  have hd1 := hd.2
  clear hf hd
  have HCK := Aside0.mk (fun W => check_c p W)
  have hu := Tryz.underlying23
  have hu2 := Tryz.underlying54
  have HR := Aside0.mk (show applyP p ⟨a, b⟩ = (⟨movedB p.cells a b, 1 - p.side, if atS p.cells (b : Int) = 46 then min (p.clock + 1) 120 else 0, if p.side = 1 then min (p.full + 1) 9999 else p.full⟩, if atS p.cells (b : Int) = 46 then 0 else atS p.cells (b : Int), 0) by unfold applyP; rw [if_neg (by simpa using hck), if_neg (by simpa using hg)]; rfl)
  have HF := Aside0.mk (fun W => at_c p.cells (a : Int) W)
  have HD := Aside0.mk (fun W => at_c p.cells (b : Int) W)
  have HALL := Aside0.mk (fun W => all_c p.cells (a : Int) W)
  have HX := Aside0.mk (show atS p.cells (a : Int) < 256 by unfold atS; split; exact cel_lt _ _; omega)
  have HY := Aside0.mk (show atS p.cells (b : Int) < 256 by unfold atS; split; exact cel_lt _ _; omega)
  have HL := Aside0.mk (show (allS p.cells (a : Int)).length ≤ 1000000 by unfold allS; split; exact Nat.le_trans (allN_len _ _) (by omega); simp)
  have HSZ := Aside0.mk (board_size hb)
  have HBD := Aside0.mk hb
  have hat : argOk p = true := by
    unfold checkP at hck
    cases ha : argOk p
    · rw [ha] at hck; simp at hck
    · rfl
  obtain ⟨_, hside, q1, q2, q3, q4⟩ := argOk_yes hat
  have HSIDE := Aside0.mk hside
  clear hg hb hat hside
  rw [hck] at HCK
  clear hck
  generalize atS p.cells (a : Int) = x at *
  generalize atS p.cells (b : Int) = y at *
  generalize allS p.cells (a : Int) = l at *
  have HS := Aside0.mk (fun W => side_c x HX.out W)
  have HK := Aside0.mk (fun W => kind_c y HY.out W)
  have hk : (((kindN y : Nat) : Int) == 75) = false := by rw [beq_eq_false_iff_ne] at *; omega
  go_enter Tryz.func74, Tryz.ntmps74
  go_wp2_with fail
  refine (HCK.out _).mono ?_
  rintro e w1 ⟨rfl, hb⟩
  have HA := Aside0.mk ((apat_new w p ⟨a, b⟩).below hb)
  clear hb
  have c0 := HA.out.c0
  have c1 := HA.out.c1
  have d0 := HA.out.d0
  go_wp2_with fail
  go_region_held3 (fun W => W.cell? ⟨w.heap.size, 0, none⟩ = some (.string p.cells) ∧ W.cell? ⟨w.heap.size, 1, none⟩ = some (.int .i64 p.side) ∧ W.cell? ⟨w.heap.size + 1, 0, none⟩ = some (.int .i64 (a : Int))) (go_keep)
    (first
      | (go_at_call 42; refine (HF.out _).mono ?_; rintro e w2 ⟨rfl, hb⟩; have HA2 := Aside0.mk (HA.out.drew.below hb); have c0' := HA2.out.c0; have c1' := HA2.out.c1; have d0' := HA2.out.d0; clear hb)
      | (go_at_call 44; refine (HS.out _).mono ?_; rintro e w3 ⟨rfl, rfl⟩))
  clear HA c0 c1 d0 c1' d0'
  have d1 := HA2.out.d1
  go_wp2_with fail
  refine (HD.out _).mono ?_
  rintro e w4 ⟨rfl, hb⟩
  have HA := Aside0.mk (HA2.out.below hb)
  clear hb HA2 c0' d1
  have c0 := HA.out.c0
  have d0 := HA.out.d0
  have d1 := HA.out.d1
  go_wp2_with fail
  go_region_held3 (fun W => W.cell? ⟨w.heap.size, 0, none⟩ = some (.string p.cells) ∧ W.cell? ⟨w.heap.size + 1, 0, none⟩ = some (.int .i64 (a : Int)) ∧ W.cell? ⟨w.heap.size + 1, 1, none⟩ = some (.int .i64 (b : Int))) (go_keep)
    (first
      | (go_at_call 60; refine (HK.out _).mono ?_; rintro e w5 ⟨rfl, rfl⟩)
      | (go_at_call 111; refine (HALL.out _).mono ?_; rintro e w6 ⟨v, rfl, hv, hb⟩; have HA6 := Aside0.mk (HA.out.drew.below hb); have HV := Aside0.mk hv; have c0' := HA6.out.c0; have d0' := HA6.out.d0; have d1' := HA6.out.d1; clear hb hv)
      | (go_at_call 110; refine (containsI_c _ _ _ _ _ HV.out HL.out).mono ?_; rw [h3]; rintro e w7 ⟨rfl, rfl⟩))
  clear c0 d0 d1 c0' d0' d1'
  have c0 := HA6.out.c0
  have kb := fun W => print_bytes (P := Tryz.prog) 9 68 5 Tryz.underlying9 Tryz.underlying68 Tryz.underlying5 p.cells W
  go_wp2_with (simp only [kb])
  have HB := Aside0.mk (bytes_at_new w7 5 p.cells)
  have HA7 := Aside0.mk (HA6.out.below (bytes_below (Below.refl _ _) (Nat.le_refl _) 5 p.cells))
  have HLT := Aside0.mk (Lib.bytesWorld_size w7 5 p.cells)
  generalize Lib.bytesWorld w7 5 p.cells = w8 at *
  have hsz : (p.cells.size : Int) = 90 := by rw [HSZ.out]; rfl
  have d0 := HA7.out.d0
  have d1 := HA7.out.d1
  obtain ⟨ka, fa⟩ := HB.out a (by rw [bytesOf_length, HSZ.out]; omega)
  obtain ⟨kb2, fb⟩ := HB.out b (by rw [bytesOf_length, HSZ.out]; omega)
  have HXA := Aside0.mk (show (bytesOf p.cells).getD a 0 = (cel p.cells a : Int) from bytes_getD p.cells a (by rw [HSZ.out]; omega))
  rw [HXA.out] at ka
  obtain ⟨ks, fs⟩ := (HB.out.set b (cel p.cells a : Int)) a (by rw [List.length_set, bytesOf_length, HSZ.out]; omega)
  generalize ((bytesOf p.cells).set b (cel p.cells a : Int)).getD a 0 = xs at ks
  generalize hxa : cel p.cells a = xa at *
  generalize (bytesOf p.cells).getD b 0 = xb at *
  clear c0 kb
  have hne : w.heap.size + 1 ≠ w7.heap.size := by have := HA6.out.lt; omega
  go_region
  have HA9 := Aside0.mk (HA7.out.upto (n := w7.heap.size) HA6.out.lt (Below.drew (Below.setCell (p := ⟨w7.heap.size, a, none⟩) (Below.setCell (p := ⟨w7.heap.size, b, none⟩) (Below.refl _ _) (Nat.le_refl _) (.int .u8 (xa : Int))) (Nat.le_refl _) (.int .u8 46))))
  have hbs : BytesAt ((w8.setCell ⟨w7.heap.size, b, none⟩ (.int .u8 (xa : Int))).setCell ⟨w7.heap.size, a, none⟩ (.int .u8 46)).drew w7.heap.size (((bytesOf p.cells).set b (xa : Int)).set a 46) := (HB.out.set b (xa : Int)).set a 46
  have kc := bytes_string hbs 68 Tryz.underlying68 (cap := grownCap w7 p.cells.size 0 5)
  rw [List.length_set, List.length_set, bytesOf_length] at kc
  have HMB := Aside0.mk (show movedB p.cells a b = strOfNums (((bytesOf p.cells).set b (xa : Int)).set a 46) by unfold movedB; rw [hxa])
  rw [← HMB.out] at kc
  clear hbs HMB HB
  generalize movedB p.cells a b = mb at *
  clear d0 d1 ka fa kb2 fb ks fs hne HXA HA7
  generalize ((w8.setCell ⟨w7.heap.size, b, none⟩ (.int .u8 (xa : Int))).setCell ⟨w7.heap.size, a, none⟩ (.int .u8 46)).drew = w9 at *
  have HA := HA9
  clear HA9 HA6
  have fp := HA.out.fp
  have fr := HA.out.fr
  have r0 := HA.out.r0
  have r1 := HA.out.r1
  have r2 := HA.out.r2
  have r3 := HA.out.r3
  have c0 := HA.out.c0
  have c1 := HA.out.c1
  have c2 := HA.out.c2
  have c3 := HA.out.c3
  have hy : (((y : Nat) : Int) == 46) = (y == 46) := by rw [Bool.eq_iff_iff, beq_iff_eq, beq_iff_eq]; omega
  have hs0 : 0 ≤ p.side := by have := HSIDE.out; omega
  have hs1 : p.side ≤ 1 := by have := HSIDE.out; omega
  cases hs : (p.side == 1)
  case false =>
    have HS1 := Aside0.mk hs
    go_upto_region 15 with (simp only [kc])
    generalize hW2 : (((w9.setCell ⟨w.heap.size, 0, none⟩ (.string mb)).setCell ⟨w.heap.size, 2, none⟩ (.int .i64 (min (p.clock + 1) 120))).setCell ⟨w.heap.size, 1, none⟩ (.int .i64 (1 - p.side))) = W2
    have k0 : W2.cell? ⟨w.heap.size, 0, none⟩ = some (.string mb) := by rw [← hW2]; simp [go_sem, c0, c1, c2, c3]
    have k1 : W2.cell? ⟨w.heap.size, 1, none⟩ = some (.int .i64 (1 - p.side)) := by rw [← hW2]; simp [go_sem, c0, c1, c2, c3]
    have k2 : W2.cell? ⟨w.heap.size, 2, none⟩ = some (.int .i64 (min (p.clock + 1) 120)) := by rw [← hW2]; simp [go_sem, c0, c1, c2, c3]
    have k3 : W2.cell? ⟨w.heap.size, 3, none⟩ = some (.int .i64 (p.full)) := by rw [← hW2]; simp [go_sem, c0, c1, c2, c3]
    have HB2 : Aside0 (Below w.heap.size w W2) := Aside0.mk (by rw [← hW2]; (repeat' (first | (with_reducible exact Below.refl _ _) | (with_reducible refine pw_below_drewN ?_ _) | (with_reducible refine below_alloc ?_ _) | (with_reducible refine Below.drew ?_) | (with_reducible refine Below.setCell ?_ ?_ _) | (simp; done))) <;> first | exact HA.out.bel | (simp; done) | (simp; omega))
    have t0 : W2.cell? ⟨w.heap.size + 1 + 1, 0, none⟩ = some (.string ByteArray.empty) := by rw [← hW2]; simp [go_sem, r0]
    have t1 : W2.cell? ⟨w.heap.size + 1 + 1, 1, none⟩ = some (.int .i64 0) := by rw [← hW2]; simp [go_sem, r1]
    have t2 : W2.cell? ⟨w.heap.size + 1 + 1, 2, none⟩ = some (.int .i64 0) := by rw [← hW2]; simp [go_sem, r2]
    have t3 : W2.cell? ⟨w.heap.size + 1 + 1, 3, none⟩ = some (.int .i64 0) := by rw [← hW2]; simp [go_sem, r3]
    have fp2 : ∀ k, W2.frozen? ⟨w.heap.size, k, none⟩ = false := fun k => by rw [← hW2]; simp [go_sem, fp]
    have fr2 : ∀ k, W2.frozen? ⟨w.heap.size + 1 + 1, k, none⟩ = false := fun k => by rw [← hW2]; simp [go_sem, fr]
    clear fp fr r0 r1 r2 r3 c0 c1 c2 c3 kc hW2
    generalize (1 - p.side) = ns at *
    generalize hmc : min (p.clock + 1) 120 = mc at k2
    generalize hmf : (p.full) = mf at k3
    have HMC := Aside0.mk hmc
    have HMF := Aside0.mk hmf
    clear hmc hmf q1 q2 q3 q4 hs0 hs1 hs
    cases hz : (y == 46)
    all_goals
      rw [hz] at hy
      have HY46 := Aside0.mk hz
      clear hz
      go_wp2_with fail
      refine bodyPost_ret (by simp [results, Tryz.results74, go_sem, t0, t1, t2, t3]; try rfl) rfl ?_
      refine ⟨?_, by (repeat' (first | (with_reducible exact Below.refl _ _) | (with_reducible refine pw_below_drewN ?_ _) | (with_reducible refine below_alloc ?_ _) | (with_reducible refine Below.drew ?_) | (with_reducible refine Below.setCell ?_ ?_ _) | (simp; done))) <;> first | exact HB2.out | (simp; done) | (simp; omega)⟩
      rw [HR.out]
      have y1 := HY46.out
      have s1 := HS1.out
      simp only [beq_iff_eq, beq_eq_false_iff_ne] at y1 s1
      simp [y1, s1, HMC.out, HMF.out] <;> exact HMC.out.symm
  case true =>
    have HS1 := Aside0.mk hs
    go_upto_region 15 with (simp only [kc])
    generalize hW2 : ((((w9.setCell ⟨w.heap.size, 0, none⟩ (.string mb)).setCell ⟨w.heap.size, 2, none⟩ (.int .i64 (min (p.clock + 1) 120))).setCell ⟨w.heap.size, 3, none⟩ (.int .i64 (min (p.full + 1) 9999))).setCell ⟨w.heap.size, 1, none⟩ (.int .i64 (1 - p.side))) = W2
    have k0 : W2.cell? ⟨w.heap.size, 0, none⟩ = some (.string mb) := by rw [← hW2]; simp [go_sem, c0, c1, c2, c3]
    have k1 : W2.cell? ⟨w.heap.size, 1, none⟩ = some (.int .i64 (1 - p.side)) := by rw [← hW2]; simp [go_sem, c0, c1, c2, c3]
    have k2 : W2.cell? ⟨w.heap.size, 2, none⟩ = some (.int .i64 (min (p.clock + 1) 120)) := by rw [← hW2]; simp [go_sem, c0, c1, c2, c3]
    have k3 : W2.cell? ⟨w.heap.size, 3, none⟩ = some (.int .i64 (min (p.full + 1) 9999)) := by rw [← hW2]; simp [go_sem, c0, c1, c2, c3]
    have HB2 : Aside0 (Below w.heap.size w W2) := Aside0.mk (by rw [← hW2]; (repeat' (first | (with_reducible exact Below.refl _ _) | (with_reducible refine pw_below_drewN ?_ _) | (with_reducible refine below_alloc ?_ _) | (with_reducible refine Below.drew ?_) | (with_reducible refine Below.setCell ?_ ?_ _) | (simp; done))) <;> first | exact HA.out.bel | (simp; done) | (simp; omega))
    have t0 : W2.cell? ⟨w.heap.size + 1 + 1, 0, none⟩ = some (.string ByteArray.empty) := by rw [← hW2]; simp [go_sem, r0]
    have t1 : W2.cell? ⟨w.heap.size + 1 + 1, 1, none⟩ = some (.int .i64 0) := by rw [← hW2]; simp [go_sem, r1]
    have t2 : W2.cell? ⟨w.heap.size + 1 + 1, 2, none⟩ = some (.int .i64 0) := by rw [← hW2]; simp [go_sem, r2]
    have t3 : W2.cell? ⟨w.heap.size + 1 + 1, 3, none⟩ = some (.int .i64 0) := by rw [← hW2]; simp [go_sem, r3]
    have fp2 : ∀ k, W2.frozen? ⟨w.heap.size, k, none⟩ = false := fun k => by rw [← hW2]; simp [go_sem, fp]
    have fr2 : ∀ k, W2.frozen? ⟨w.heap.size + 1 + 1, k, none⟩ = false := fun k => by rw [← hW2]; simp [go_sem, fr]
    clear fp fr r0 r1 r2 r3 c0 c1 c2 c3 kc hW2
    generalize (1 - p.side) = ns at *
    generalize hmc : min (p.clock + 1) 120 = mc at k2
    generalize hmf : (min (p.full + 1) 9999) = mf at k3
    have HMC := Aside0.mk hmc
    have HMF := Aside0.mk hmf
    clear hmc hmf q1 q2 q3 q4 hs0 hs1 hs
    cases hz : (y == 46)
    all_goals
      rw [hz] at hy
      have HY46 := Aside0.mk hz
      clear hz
      go_wp2_with fail
      refine bodyPost_ret (by simp [results, Tryz.results74, go_sem, t0, t1, t2, t3]; try rfl) rfl ?_
      refine ⟨?_, by (repeat' (first | (with_reducible exact Below.refl _ _) | (with_reducible refine pw_below_drewN ?_ _) | (with_reducible refine below_alloc ?_ _) | (with_reducible refine Below.drew ?_) | (with_reducible refine Below.setCell ?_ ?_ _) | (simp; done))) <;> first | exact HB2.out | (simp; done) | (simp; omega)⟩
      rw [HR.out]
      have y1 := HY46.out
      have s1 := HS1.out
      simp only [beq_iff_eq, beq_eq_false_iff_ne] at y1 s1
      simp [y1, s1, HMC.out, HMF.out] <;> exact HMC.out.symm
theorem apply_c (p : Pos) (m : Mvi) (w : World) : Calls Tryz.prog 74 #[posV p, mviV m] w (ApplyIs w p m) := by
  by_cases h1 : checkP p = 0
  · cases h2 : goodM p m
    · exact apply_bad p m w h1 h2
    · exact apply_ok p m w h1 h2
  · exact apply_no p m w h1
end Go.Proofs.YtdkghbbjillboaaGreatDoor.K

/- Plain law: behind a move a position is right. -/
namespace Go.Proofs.YtdkghbbjillboaaGreatDoor.K
open Go.RowKit Go.Lib Go.Proofs.YtdkghbbjillboaaGreatDoorW.PrintWords Go.Proofs.YtdkghbbjillboaaGreatDoor.Sp
set_option linter.unusedVariables false
/-- Something else on one square. -/
def setC (c : Nat → Nat) (n v : Nat) : Nat → Nat := fun i => if i = n then v else c i
def cntC (c : Nat → Nat) (N x : Nat) : Nat := (List.range N).countP (fun i => c i == x)
theorem cntC_succ (c : Nat → Nat) (N x : Nat) : cntC c (N + 1) x = cntC c N x + (if c N = x then 1 else 0) := by
  unfold cntC
  rw [List.range_succ, List.countP_append]
  simp [List.countP_cons]
theorem cnt_set (c : Nat → Nat) (n v x : Nat) : ∀ N, (n < N → cntC (setC c n v) N x + (if c n = x then 1 else 0) = cntC c N x + (if v = x then 1 else 0)) ∧ (N ≤ n → cntC (setC c n v) N x = cntC c N x)
  | 0 => ⟨fun h => by omega, fun _ => rfl⟩
  | N + 1 => by
    obtain ⟨h1, h2⟩ := cnt_set c n v x N
    rw [cntC_succ, cntC_succ]
    have e : setC c n v N = if N = n then v else c N := rfl
    constructor
    · intro h
      by_cases hN : N = n
      · subst hN
        rw [h2 (Nat.le_refl _), e, if_pos rfl]
        omega
      · have := h1 (by omega)
        rw [show setC c n v N = c N from if_neg hN]
        omega
    · intro h
      rw [h2 (by omega), show setC c n v N = c N from if_neg (by omega)]
theorem cntC_congr {c d : Nat → Nat} {N : Nat} (h : ∀ n, n < N → c n = d n) (x : Nat) : cntC c N x = cntC d N x := by
  unfold cntC
  exact List.countP_congr (fun i hi => by rw [h i (List.mem_range.1 hi)])
/-- The squares of a board behind a move. -/
def moveC (c : Nat → Nat) (a b : Nat) : Nat → Nat := setC (setC c b (c a)) a 46
theorem cnt_move {c : Nat → Nat} {a b : Nat} (ha : a < 90) (hb : b < 90) (hab : a ≠ b) (x : Nat) : cntC (moveC c a b) 90 x + (if c b = x then 1 else 0) = cntC c 90 x + (if 46 = x then 1 else 0) := by
  have h1 := (cnt_set (setC c b (c a)) a 46 x 90).1 ha
  have h2 := (cnt_set c b (c a) x 90).1 hb
  rw [show setC c b (c a) a = c a from if_neg hab] at h1
  unfold moveC
  omega
theorem fast_may : ∀ x ∈ letters, 0 ≤ sideN x → kindN x = 80 → ∀ a b : Fin 90, mayN x a.1 = true → pawnN (sideN x) a.1 b.1 = true → mayN x b.1 = true := by decide +kernel
theorem may_move {c : Nat → Nat} {a b : Nat} (ha : a < 90) (hb : b < 90) (hl : c a ∈ letters) (hm : mayN (c a) a = true) (h : fastN c a b = true) : mayN (c a) b = true := by
  have hs : 0 ≤ sideN (c a) := by
    unfold fastN at h
    simp only [Bool.and_eq_true, decide_eq_true_eq] at h
    exact h.1.1
  have hc : canN c a b = true := by
    unfold fastN at h
    simp only [Bool.and_eq_true] at h
    exact h.2
  have hk := kinds hs
  unfold canN at hc
  rcases hk with k | k | k | k | k | k | k
  · rw [if_pos k] at hc; simp only [Bool.and_eq_true] at hc; exact hc.2
  · rw [if_neg (by omega), if_pos k] at hc; simp only [Bool.and_eq_true] at hc; exact hc.2
  · rw [if_neg (by omega), if_neg (by omega), if_pos k] at hc; simp only [Bool.and_eq_true] at hc; exact hc.1.2
  · unfold mayN; rw [if_neg (by omega), if_neg (by omega), if_neg (by omega), if_neg (by omega), if_neg (by omega)]
  · unfold mayN; rw [if_neg (by omega), if_neg (by omega), if_neg (by omega), if_neg (by omega), if_neg (by omega)]
  · unfold mayN; rw [if_neg (by omega), if_neg (by omega), if_neg (by omega), if_neg (by omega), if_neg (by omega)]
  · rw [if_neg (by omega), if_neg (by omega), if_neg (by omega), if_neg (by omega), if_neg (by omega), if_neg (by omega)] at hc
    exact fast_may _ hl hs k ⟨a, ha⟩ ⟨b, hb⟩ hm hc
theorem cel_nums (xs : List Int) (n : Nat) (hn : n < xs.length) (h : 0 ≤ xs[n] ∧ xs[n] < 256) : cel (strOfNums xs) n = (xs[n]).toNat := by
  have hs : n < (strOfNums xs).size := by simp [strOfNums, ByteArray.size]; omega
  rw [← cel_get _ n hs]
  have e : (strOfNums xs)[n]'hs = UInt8.ofNat (xs[n]).toNat := by
    show ((xs.map fun n => UInt8.ofNat n.toNat).toArray)[n]'(by simpa using hn) = _
    simp
  rw [e]
  simp only [UInt8.toNat_ofNat']
  omega
theorem moved_size (s : ByteArray) (a b : Nat) : (movedB s a b).size = s.size := by
  have h : ∀ xs : List Int, (strOfNums xs).size = xs.length := fun xs => by simp [strOfNums, ByteArray.size]
  unfold movedB
  rw [h, List.length_set, List.length_set, bytesOf_length]
theorem moved_cel {s : ByteArray} {a b n : Nat} (ha : a < s.size) (hb : b < s.size) (hn : n < s.size) : cel (movedB s a b) n = moveC (cel s) a b n := by
  have hl : (((bytesOf s).set b (cel s a)).set a 46).length = s.size := by rw [List.length_set, List.length_set, bytesOf_length]
  have hg : (((bytesOf s).set b (cel s a)).set a 46)[n]'(by omega) = (moveC (cel s) a b n : Int) := by
    rw [List.getElem_set]
    unfold moveC setC
    by_cases h1 : n = a
    · rw [if_pos h1.symm, if_pos h1]; rfl
    · rw [if_neg (Ne.symm h1), if_neg h1, List.getElem_set]
      by_cases h2 : n = b
      · rw [if_pos h2.symm, if_pos h2]
      · rw [if_neg (Ne.symm h2), if_neg h2]
        have := bytes_getD s n hn
        rw [List.getD_eq_getElem?_getD, List.getElem?_eq_getElem (by rw [bytesOf_length]; exact hn)] at this
        exact this
  have hlt : moveC (cel s) a b n < 256 := by
    unfold moveC setC
    split
    · omega
    · split <;> exact cel_lt _ _
  unfold movedB
  rw [cel_nums _ n (by omega) (by rw [hg]; omega), hg]
  simp
end Go.Proofs.YtdkghbbjillboaaGreatDoor.K

/- Plain law: behind a move a position is right; its pieces. -/
namespace Go.Proofs.YtdkghbbjillboaaGreatDoor.K
open Go.RowKit Go.Lib Go.Proofs.YtdkghbbjillboaaGreatDoorW.PrintWords Go.Proofs.YtdkghbbjillboaaGreatDoor.Sp
set_option linter.unusedVariables false
theorem checkP_parts {p : Pos} (h : checkP p = 0) : argOk p = true ∧ (∀ x ∈ pieces14, badX p.cells x = false) ∧ (∀ n, n < 90 → cel p.cells n = 46 ∨ mayN (cel p.cells n) n = true) := by
  have ha := checkP_board h
  unfold checkP at h
  rw [if_neg (by rw [ha]; simp)] at h
  cases h1 : pieces14.any (badX p.cells)
  · rw [h1] at h
    cases h2 : rightX p.cells 90
    · rw [h2] at h; simp at h
    · refine ⟨ha, fun x hx => ?_, fun n hn => ?_⟩
      · rw [List.any_eq_false] at h1
        simpa using h1 x hx
      · unfold rightX at h2
        rw [List.all_eq_true] at h2
        have := h2 n (List.mem_range.2 hn)
        simp only [Bool.or_eq_true, beq_iff_eq] at this
        exact this
  · rw [h1] at h; simp at h
theorem checkP_mk {p : Pos} (ha : argOk p = true) (hb : ∀ x ∈ pieces14, badX p.cells x = false) (hr : ∀ n, n < 90 → cel p.cells n = 46 ∨ mayN (cel p.cells n) n = true) : checkP p = 0 := by
  unfold checkP
  rw [if_neg (by rw [ha]; simp), if_neg, if_neg]
  · have : rightX p.cells 90 = true := by
      unfold rightX
      rw [List.all_eq_true]
      intro n hn
      simp only [Bool.or_eq_true, beq_iff_eq]
      exact hr n (List.mem_range.1 hn)
    simp [this]
  · have : pieces14.any (badX p.cells) = false := by
      rw [List.any_eq_false]
      intro x hx
      simp [hb x hx]
    simp [this]
/-- What is known of a move of a position. -/
theorem move_parts {p : Pos} {a b : Nat} (hck : checkP p = 0) (ha : a < 90) (hb : b < 90) (hs : sideN (cel p.cells a) = p.side) (hf : fastN (cel p.cells) a b = true) :
    atS p.cells (a : Int) = cel p.cells a ∧ atS p.cells (b : Int) = cel p.cells b ∧ allS p.cells (a : Int) = allN (cel p.cells) a ∧ a ≠ b ∧ 0 ≤ sideN (cel p.cells a) := by
  have hbd := (argOk_yes (checkP_parts hck).1).1
  have hf' := hf
  unfold fastN at hf'
  simp only [Bool.and_eq_true, decide_eq_true_eq, bne_iff_ne, ne_eq] at hf'
  refine ⟨?_, ?_, ?_, ?_, hf'.1.1⟩
  · unfold atS; rw [if_pos ⟨hbd, by omega, by omega⟩]; rfl
  · unfold atS; rw [if_pos ⟨hbd, by omega, by omega⟩]; rfl
  · unfold allS; rw [if_pos ⟨hbd, by omega, by omega⟩]; rfl
  · rintro rfl; exact hf'.1.2 rfl
theorem good_move {p : Pos} {a b : Nat} (hck : checkP p = 0) (ha : a < 90) (hb : b < 90) (hs : sideN (cel p.cells a) = p.side) (hf : fastN (cel p.cells) a b = true) : goodM p ⟨a, b⟩ = (kindN (cel p.cells b) != 75) := by
  obtain ⟨h1, h2, h3, _, _⟩ := move_parts hck ha hb hs hf
  unfold goodM
  simp only
  rw [h1, h2, h3, hs]
  have : (allN (cel p.cells) a).any (fun n => (n : Int) == (b : Int)) = true := by
    rw [List.any_eq_true]
    exact ⟨b, List.mem_filter.2 ⟨List.mem_range.2 hb, hf⟩, by simp⟩
  rw [this]
  simp
theorem right_after {p : Pos} {a b : Nat} (hck : checkP p = 0) (ha : a < 90) (hb : b < 90) (hs : sideN (cel p.cells a) = p.side) (hf : fastN (cel p.cells) a b = true) (hk : kindN (cel p.cells b) ≠ 75) (ck fl : Int) (hc : 0 ≤ ck ∧ ck ≤ 120) (hfl : 1 ≤ fl ∧ fl ≤ 9999) :
    checkP ⟨movedB p.cells a b, 1 - p.side, ck, fl⟩ = 0 ∧ isBoard (movedB p.cells a b) = true ∧ cntX (movedB p.cells a b) 90 46 = cntX p.cells 90 46 + (if cel p.cells b = 46 then 0 else 1) := by
  obtain ⟨hao, hbad, hri⟩ := checkP_parts hck
  obtain ⟨hbd, hsd, _⟩ := argOk_yes hao
  obtain ⟨_, _, _, hab, h0⟩ := move_parts hck ha hb hs hf
  have hsz := board_size hbd
  have hcel : ∀ n, n < 90 → cel (movedB p.cells a b) n = moveC (cel p.cells) a b n := fun n hn => moved_cel (by omega) (by omega) (by omega)
  have hlet : ∀ n, n < 90 → moveC (cel p.cells) a b n ∈ letters := by
    intro n hn
    unfold moveC setC
    split
    · decide
    · split
      · exact board_cell hbd ha
      · exact board_cell hbd hn
  have hcb : ∀ x ∈ letters, cellB x = true := by decide
  have hmb : isBoard (movedB p.cells a b) = true := (board_iff _ (by rw [moved_size, hsz])).2 (fun n hn => by rw [hcel n hn]; exact hcb _ (hlet n hn))
  have hcnt : ∀ x, cntX (movedB p.cells a b) 90 x + (if cel p.cells b = x then 1 else 0) = cntX p.cells 90 x + (if 46 = x then 1 else 0) := by
    intro x
    have h := cnt_move (c := cel p.cells) ha hb hab x
    have e : cntX (movedB p.cells a b) 90 x = cntC (moveC (cel p.cells) a b) 90 x := cntC_congr hcel x
    rw [e]
    exact h
  refine ⟨checkP_mk ?_ ?_ ?_, hmb, ?_⟩
  · unfold argOk
    simp only
    rw [hmb]
    simp only [Bool.true_and, decide_eq_true_eq]
    omega
  · intro x hx
    have h := hbad x hx
    have hc := hcnt x
    have hx46 : ∀ x ∈ pieces14, (46 : Nat) ≠ x := by decide
    rw [if_neg (hx46 x hx)] at hc
    unfold badX at h ⊢
    simp only [Bool.or_eq_false_iff, decide_eq_false_iff_not, Bool.and_eq_false_iff, beq_eq_false_iff_ne, bne_eq_false_iff_eq] at h ⊢
    obtain ⟨h1, h2⟩ := h
    refine ⟨by split at hc <;> omega, ?_⟩
    rcases h2 with h2 | h2
    · exact .inl h2
    · by_cases h3 : cel p.cells b = x
      · left
        rw [← h3]
        exact hk
      · right
        rw [if_neg h3] at hc
        omega
  · intro n hn
    simp only
    rw [hcel n hn]
    unfold moveC setC
    by_cases h1 : n = a
    · rw [if_pos h1]; exact .inl rfl
    · rw [if_neg h1]
      by_cases h2 : n = b
      · rw [if_pos h2, h2]
        rcases hri a ha with h3 | h3
        · rw [h3] at h0; exact absurd h0 (by decide)
        · exact .inr (may_move ha hb (board_cell hbd ha) h3 hf)
      · rw [if_neg h2]; exact hri n hn
  · have := hcnt 46
    rw [if_pos rfl] at this
    split at this
    · rename_i h; rw [if_pos h]; omega
    · rename_i h; rw [if_neg h]; omega
/-- One move stands ahead of another. -/
def aheadM (m n : Mv) : Prop := m.1 < n.1 ∨ (m.1 = n.1 ∧ m.2 < n.2)
theorem from_pair (s : ByteArray) (side : Int) (q : Nat → Bool) (a : Nat) : (fromM s side q a).Pairwise aheadM ∧ ∀ m ∈ fromM s side q a, m.1 = a := by
  unfold fromM
  split
  · constructor
    · rw [List.pairwise_map]
      have h : ((allN (cel s) a).filter (fun b => q (cel s b))).Pairwise (· < ·) := by
        unfold allN
        exact (List.pairwise_lt_range.filter _).filter _
      exact h.imp (fun h => .inr ⟨rfl, h⟩)
    · intro m hm
      obtain ⟨b, _, rfl⟩ := List.mem_map.1 hm
      rfl
  · exact ⟨List.Pairwise.nil, fun m hm => by simp at hm⟩
theorem gath_pair (s : ByteArray) (side : Int) (q : Nat → Bool) : ∀ n, (gathM s side q n).Pairwise aheadM ∧ ∀ m ∈ gathM s side q n, m.1 < n
  | 0 => ⟨by simp [gathM], fun m hm => by simp [gathM] at hm⟩
  | n + 1 => by
    obtain ⟨h1, h2⟩ := gath_pair s side q n
    obtain ⟨h3, h4⟩ := from_pair s side q n
    rw [gathM_succ]
    refine ⟨List.pairwise_append.2 ⟨h1, h3, fun x hx y hy => .inl (by rw [h4 y hy]; exact h2 x hx)⟩, fun m hm => ?_⟩
    rcases List.mem_append.1 hm with h | h
    · have := h2 m h; omega
    · rw [h4 m h]; omega
theorem gathP_pair (p : Pos) (q : Nat → Bool) : (gathP p q).Pairwise aheadM := by
  unfold gathP
  split
  · exact (gath_pair _ _ _ 90).1
  · exact List.Pairwise.nil
end Go.Proofs.YtdkghbbjillboaaGreatDoor.K

/- Walks: a set's iterator, gathered into a list (1): what stands between two rounds. -/
namespace Go.Proofs.YtdkghbbjillboaaGreatDoor.K
open Go.RowKit Go.Lib Go.Shelf Go.Maps Go.Sort Go.Proofs.YtdkghbbjillboaaGreatDoorW.PrintWords Go.Proofs.YtdkghbbjillboaaGreatDoor.Sp
set_option linter.unusedVariables false
set_option linter.unusedSimpArgs false
def renZ : Go.Shelf.Ren := ⟨fun | 8 => 133 | 11 => 148 | n => n, fun | 24 => 62 | 26 => 3 | 28 => 115 | 33 => 76 | 0 => 0 | n => n, fun n => n⟩
theorem laysZ : SlLaysZI.n8 Tryz.prog renZ := {
  mixed := by kernel_rfl
  f8 := ⟨Tryz.f133.name, by decide, Tryz.func133.trans (congrArg some (by kernel_rfl))⟩
  f11 := ⟨Tryz.f148.name, by decide, Tryz.func148.trans (congrArg some (by kernel_rfl))⟩
  t0 := Tryz.underlying0
  a0 := Tryz.isAgg0
  z0 := Tryz.sizeOf0
  v0 := Tryz.zeroValue0
  t24 := Tryz.underlying62
  a24 := Tryz.isAgg62
  z24 := Tryz.sizeOf62
  v24 := Tryz.zeroValue62
  t26 := Tryz.underlying3
  a26 := Tryz.isAgg3
  z26 := Tryz.sizeOf3
  v26 := Tryz.zeroValue3
  t28 := Tryz.underlying115
  a28 := Tryz.isAgg115
  z28 := Tryz.sizeOf115
  v28 := Tryz.zeroValue115
  i26 := by kernel_rfl }
/-- A box that holds a set. -/
structure BoxAt (B a b : Nat) (W : World) : Prop where
  e0 : W.cell? ⟨B, 0, none⟩ = some (.int .u64 (a : Int))
  e1 : W.cell? ⟨B, 1, none⟩ = some (.int .u64 (b : Int))
  fz : ∀ k, W.frozen? ⟨B, k, none⟩ = false
theorem BoxAt.lt {B a b : Nat} {W : World} (h : BoxAt B a b W) : B < W.heap.size := World.block_lt_of_cell? W ⟨B, 0, none⟩ h.e0
theorem BoxAt.keep {B a b : Nat} {W W' : World} (h : BoxAt B a b W) {n : Nat} (hn : B < n) (hb : Below n W W') : BoxAt B a b W' :=
  ⟨(hb.cell (p := ⟨B, 0, none⟩) hn).trans h.e0, (hb.cell (p := ⟨B, 1, none⟩) hn).trans h.e1, fun k => (hb.frozen (p := ⟨B, k, none⟩) hn).trans (h.fz k)⟩
theorem BoxAt.below {B a b : Nat} {W W' : World} (h : BoxAt B a b W) (hb : Below W.heap.size W W') : BoxAt B a b W' := h.keep h.lt hb
/-- The world with another set in the box. -/
abbrev putB (W : World) (B c d : Nat) : World := (W.setCell ⟨B, 0, none⟩ (.int .u64 (c : Int))).setCell ⟨B, 1, none⟩ (.int .u64 (d : Int))
theorem BoxAt.put {B a b : Nat} {W : World} (h : BoxAt B a b W) (c d : Nat) : BoxAt B c d (putB W B c d) := by
  have h0 := h.e0
  have h1 := h.e1
  have hf := h.fz
  exact ⟨by simp [go_sem, h0, h1], by simp [go_sem, h0, h1], fun k => by simp [go_sem, hf]⟩
theorem putB_heap (W : World) (B c d k : Nat) (h : k ≠ B) : (putB W B c d).heap[k]? = W.heap[k]? :=
  (Below.heap_setCell _ ⟨B, 1, none⟩ _ k h).trans (Below.heap_setCell _ ⟨B, 0, none⟩ _ k h)
theorem putB_size (W : World) (B c d : Nat) : (putB W B c d).heap.size = W.heap.size := by simp [World.setCell]
theorem putB_below {n : Nat} {a : World} {W : World} (h : Below n a W) (B c d : Nat) (hB : n ≤ B) : Below n a (putB W B c d) :=
  (h.setCell (p := ⟨B, 0, none⟩) hB _).setCell (p := ⟨B, 1, none⟩) hB _
theorem below_putB {n : Nat} {a b : World} (h : Below n a b) (ha : n ≤ a.heap.size) (B c d : Nat) : Below n (putB a B c d) (putB b B c d) where
  os := h.os
  tape := h.tape
  output := h.output
  size := by rw [putB_size, putB_size]; exact h.size
  block := fun k hk => by
    simp only [putB, World.setCell, Array.getElem?_modify]
    rw [h.block k hk]
theorem ApAt.put {w0 : World} {fn : FuncId} {sv : Value} {Bs l D : Nat} {ss : List Int} {W : World} (h : AnyZI.ApAt renZ w0 fn sv Bs l D ss W) (B c d : Nat) (hB : B < w0.heap.size) (h1 : w0.heap.size ≤ Bs) (h2 : w0.heap.size ≤ l) (h3 : w0.heap.size ≤ D) : AnyZI.ApAt renZ (putB w0 B c d) fn sv Bs l D ss (putB W B c d) := by
  obtain ⟨v, hv, hr, hn⟩ := h.box
  refine ⟨⟨v, (putB_heap _ _ _ _ _ (by omega)).trans hv, ?_, hn⟩, (putB_heap _ _ _ _ _ (by omega)).trans h.L, (putB_heap _ _ _ _ _ (by omega)).trans h.K, ?_⟩
  · rw [putB_size]
    exact ownsRow_setCell_below (ownsRow_setCell_below hr (a := ⟨B, 0, none⟩) hB _) (a := ⟨B, 1, none⟩) hB _
  · rw [putB_size]
    exact below_putB h.below (Nat.le_refl _) _ _ _
theorem ApAt.below' {w0 : World} {fn : FuncId} {sv : Value} {Bs l D : Nat} {ss : List Int} {W W' : World} (h : AnyZI.ApAt renZ w0 fn sv Bs l D ss W) (hb : Below W.heap.size W W') : AnyZI.ApAt renZ w0 fn sv Bs l D ss W' := by
  obtain ⟨v, hv, hr, hn⟩ := h.box
  refine ⟨⟨v, (hb.block _ (Array.getElem?_eq_some_iff.1 hv).1).trans hv, ?_, hn⟩, (hb.block _ (Array.getElem?_eq_some_iff.1 h.L).1).trans h.L, (hb.block _ (Array.getElem?_eq_some_iff.1 h.K).1).trans h.K, h.below.trans (hb.mono h.below.size)⟩
  exact hr.kept (row := none) ⟨hb.os, hb.tape, hb.output, hb.size, fun j hj _ => hb.block j hj⟩ (by cases hv : v.ownBlock <;> simp)
/-- BETWEEN TWO ROUNDS: the box Bm of the iterator holds a set; what has come lies in Collect's own row. -/
def JAt (w00 : World) (S0 Bm : Nat) (fn : FuncId) (sv : Value) (Bs l D a b : Nat) (pre : List Int) (W : World) : Prop :=
  ∃ w0 : World, w0.heap.size = S0 ∧ Below w00.heap.size w00 w0 ∧ BoxAt Bm a b w0 ∧ AnyZI.ApAt renZ w0 fn sv Bs l D pre W
section
variable {w00 : World} {S0 Bm : Nat} {fn : FuncId} {sv : Value} {Bs l D a b : Nat} {pre : List Int} {W W' : World}
theorem JAt.box (h : JAt w00 S0 Bm fn sv Bs l D a b pre W) : BoxAt Bm a b W := by
  obtain ⟨w0, h0, h1, h2, h3⟩ := h
  exact h2.below h3.below
theorem JAt.bel (h : JAt w00 S0 Bm fn sv Bs l D a b pre W) : Below w00.heap.size w00 W := by
  obtain ⟨w0, h0, h1, h2, h3⟩ := h
  exact h1.trans (h3.below.mono h1.size)
theorem JAt.later (h : JAt w00 S0 Bm fn sv Bs l D a b pre W) (hb : Below W.heap.size W W') : JAt w00 S0 Bm fn sv Bs l D a b pre W' := by
  obtain ⟨w0, h0, h1, h2, h3⟩ := h
  exact ⟨w0, h0, h1, h2, ApAt.below' h3 hb⟩
theorem JAt.put (h : JAt w00 S0 Bm fn sv Bs l D a b pre W) (c d : Nat) (hm : w00.heap.size ≤ Bm) (h1 : S0 ≤ Bs) (h2 : S0 ≤ l) (h3 : S0 ≤ D) : JAt w00 S0 Bm fn sv Bs l D c d pre (putB W Bm c d) := by
  obtain ⟨w0, h0, hb, hx, hA⟩ := h
  have := hx.lt
  exact ⟨putB w0 Bm c d, by rw [putB_size]; exact h0, putB_below hb _ _ _ hm, hx.put c d, ApAt.put hA _ _ _ hx.lt (by omega) (by omega) (by omega)⟩
theorem JAt.yield (n m : Nat) (hBl : Bs ≠ l) (hDl : D ≠ l) (hDB : D ≠ Bs) (h0B : S0 ≤ Bs) (h0l : S0 ≤ l) (hlen : pre.length < 90) (x : Int) (h : JAt w00 S0 Bm fn sv Bs l D a b pre W) :
    YieldAt Fence.wide m Tryz.prog l #[encZ x] W fun e W' => e = .returned (.bool true) ∧ JAt w00 S0 Bm fn sv Bs l D a b (pre ++ [x]) W' := by
  obtain ⟨w0, h0, hb, hx, hA⟩ := h
  obtain ⟨fn', tmps, assign, body, hy, hR⟩ := AnyZI.apYield { laysZ with } Fence.wide m w0 fn trivial sv Bs l D hBl hDl hDB (by omega) (by omega) 90 (by decide) (by decide) pre x W hA hlen
  refine ⟨fn', tmps, assign, body, hy, hR.mono ?_⟩
  rintro e W' ⟨rfl, hA', _⟩
  exact ⟨rfl, w0, h0, hb, hx, hA'⟩
end
end Go.Proofs.YtdkghbbjillboaaGreatDoor.K

/- Walks: a set's iterator, gathered into a list (2): the iterator. -/
namespace Go.Proofs.YtdkghbbjillboaaGreatDoor.K
open Go.RowKit Go.Lib Go.Shelf Go.Maps Go.Sort Go.Proofs.YtdkghbbjillboaaGreatDoorW.PrintWords Go.Proofs.YtdkghbbjillboaaGreatDoor.Sp
set_option linter.unusedVariables false
set_option linter.unusedSimpArgs false
attribute [local go_sem] Oper.semAt_some
/-- How many squares a box's set holds. -/
def leftS (Bm : Nat) (w : World) : Nat :=
  match w.cell? ⟨Bm, 0, none⟩, w.cell? ⟨Bm, 1, none⟩ with
  | some (.int _ x), some (.int _ y) => (memL fun i => if i < 45 then x.toNat.testBit i else y.toNat.testBit (i - 45)).length
  | _, _ => 0
theorem memL_congr {f g : Nat → Bool} (h : ∀ i, i < 90 → f i = g i) : memL f = memL g :=
  List.filter_congr fun i hi => h i (List.mem_range.1 hi)
theorem leftS_eq {Bm : Nat} {f : Nat → Bool} {w : World} (h : BoxAt Bm (loB f) (hiB f) w) : leftS Bm w = (memL f).length := by
  unfold leftS
  rw [h.e0, h.e1]
  refine congrArg List.length (memL_congr fun i hi => ?_)
  by_cases h1 : i < 45
  · rw [if_pos h1]
    show (bitsTo f 45).testBit i = _
    rw [bitsTo_test]
    simp [h1]
  · rw [if_neg h1]
    show (bitsTo (fun i => f (45 + i)) 45).testBit (i - 45) = _
    rw [bitsTo_test]
    simp [show i - 45 < 45 by omega, show 45 + (i - 45) = i by omega]
/-- Whole numbers of a list. -/
abbrev toI (l : List Nat) : List Int := l.map fun n : Nat => (n : Int)
theorem memL_len (f : Nat → Bool) : (memL f).length ≤ 90 := by
  have := List.length_filter_le f (List.range 90)
  rw [List.length_range] at this
  exact this
set_option maxRecDepth 100000 in
set_option maxHeartbeats 2000000 in
theorem each1_in (f : Nat → Bool) (n : Nat) (hn : 1 ≤ n) (w00 : World) (hT : TabW w00) (S0 Bm : Nat) (fn : FuncId) (sv : Value) (Bs l D : Nat) (hm : w00.heap.size ≤ Bm) (hBl : Bs ≠ l) (hDl : D ≠ l) (hDB : D ≠ Bs) (h0B : S0 ≤ Bs) (h0l : S0 ≤ l) (h0D : S0 ≤ D) (W : World)
    (h0 : JAt w00 S0 Bm fn sv Bs l D (loB f) (hiB f) [] W) :
    CallsIn Fence.wide n Tryz.prog 149 #[.func (.yield l) #[] #[], .pointer (some ⟨Bm, 0, none⟩)] W fun e W' => (∃ v, e = .returned v) ∧ ∃ a b, JAt w00 S0 Bm fn sv Bs l D a b (toI (memL f)) W' := by
  have hu := Tryz.underlying100
  obtain ⟨l1, l2⟩ := lt45 f
  have HP := Aside0.mk (fun W => plain_c _ _ l1 l2 W)
  obtain ⟨e0, e1, fz⟩ := h0.box
  refine callsIn_of_wp Tryz.func149 rfl trivial ?_ rfl
  simp only [Tryz.ntmps149, List.size_toArray, List.length_cons, List.length_nil, Nat.reduceAdd, Nat.reduceSub, Array.replicate_succ, Array.replicate_zero, List.push_toArray, List.append_toArray, List.nil_append, List.cons_append]
  gi_wp2_with (refine ⟨trivial, ?_⟩; gi_at_call 150; refine (callsIn_wide.2 (HP.out _)).mono ?_; rintro e w1 ⟨rfl, hb⟩; have h1 := h0.later hb; obtain ⟨f0, f1, fz1⟩ := h1.box)
  obtain ⟨W1, hW1⟩ : ∃ W1, putB w1 Bm (loB f) (hiB f) = W1 := ⟨_, rfl⟩
  have hJ1 := h1.put (loB f) (hiB f) hm h0B h0l h0D
  rw [hW1] at hJ1
  change Code.wpIn _ _ _ _ _ _ (putB w1 Bm (loB f) (hiB f))
  rw [hW1]
  clear hW1 h1 f0 f1 fz1 hb
  gi_loopw [3] (fun s wr => ∃ (g : Nat → Bool) (pre : List Nat), memL f = pre ++ memL g ∧ JAt w00 S0 Bm fn sv Bs l D (loB g) (hiB g) (toI pre) wr)
    (fun _ wr => leftS Bm wr)
  case atStart => exact ⟨f, [], rfl, hJ1⟩
  case round =>
    obtain ⟨g, pre, hm1, hJ⟩ := hrel
    obtain ⟨g0, g1, gz⟩ := hJ.box
    have hlf := leftS_eq hJ.box
    cases hml : memL g with
    | nil =>
      obtain ⟨hz0, hz1⟩ := memL_nil hml
      rw [hz0] at g0
      rw [hz1] at g1
      gi_wp2
      go_end0
      exact ⟨⟨_, rfl⟩, loB g, hiB g, by rw [hm1, hml, List.append_nil]; exact hJ⟩
    | cons x tl =>
      have hT2 := hT.below hJ.bel
      have hF := Aside0.mk (fun (W : World) (hT : TabW W) => first_c g x tl hml W hT)
      obtain ⟨gx, hx90, _, htl⟩ := memL_cons hml
      have hWo := Aside0.mk (fun (W : World) => without_c g x hx90 W)
      have hlen : (toI pre).length < 90 := by
        have h9 := memL_len f
        rw [hm1, hml, List.length_append, List.length_cons] at h9
        simp
        omega
      have hab : loB g ≠ 0 ∨ (loB g = 0 ∧ hiB g ≠ 0) := by
        rcases first_at hml with ⟨h, _⟩ | ⟨h, h', _⟩
        · exact .inl h
        · exact .inr ⟨h, h'⟩
      have hend : ∀ W', JAt w00 S0 Bm fn sv Bs l D (loB (cutF g x)) (hiB (cutF g x)) (toI (pre ++ [x])) W' → (∃ (g : Nat → Bool) (pre : List Nat), memL f = pre ++ memL g ∧ JAt w00 S0 Bm fn sv Bs l D (loB g) (hiB g) (toI pre) W') ∧ leftS Bm W' < leftS Bm wr := fun W' hJ' =>
        ⟨⟨cutF g x, pre ++ [x], by rw [hm1, hml, show memL (cutF g x) = tl from htl]; simp, hJ'⟩, by rw [hlf, leftS_eq hJ'.box, show memL (cutF g x) = tl from htl, hml]; simp⟩
      have hend := Aside0.mk hend
      have hF : Aside0 (∀ W, TabW W → Calls Tryz.prog 151 #[setV (loB g) (hiB g)] W fun e w' => e = .returned (.int .i64 (x : Int)) ∧ Below W.heap.size W w') := hF
      have hWo : Aside0 (∀ W, Calls Tryz.prog 152 #[setV (loB g) (hiB g), .int .i64 (x : Int)] W fun e w' => e = .returned (setV (loB (cutF g x)) (hiB (cutF g x))) ∧ Below W.heap.size W w') := hWo
      clear hml hm1 hlf hT htl gx h0 hJ1 HP l1 l2 e0 e1 fz
      generalize loB g = a at *
      generalize hiB g = b at *
      generalize loB (cutF g x) = a' at *
      generalize hiB (cutF g x) = b' at *
      have q : (¬ ((a : Int) = 0)) ∨ (a = 0 ∧ ¬ ((b : Int) = 0)) := by omega
      clear hab
      rcases q with q | ⟨rfl, q⟩
      all_goals
        gi_wp2_with (first
          | (refine ⟨trivial, ?_⟩; gi_at_call 151; refine (callsIn_wide.2 (hF.out _ hT2)).mono ?_; rintro e w2 ⟨rfl, hb2⟩; have hJ2 := Aside0.mk (hJ.later hb2); obtain ⟨fn', tmps, assign, body, hy, hR⟩ := hJ2.out.yield n (n - 1) hBl hDl hDB h0B h0l hlen x)
          )
        refine hR.mono ?_
        rintro e W3 ⟨rfl, hJ3⟩
        clear hy hR hJ2 hb2 g0 g1 gz hJ hF
        have hJ3 := Aside0.mk hJ3
        obtain ⟨g0, g1, gz⟩ := hJ3.out.box
        gi_wp2_with (first
          | (refine ⟨trivial, ?_⟩; gi_at_call 152; refine (callsIn_wide.2 (hWo.out _)).mono ?_; rintro e w4 ⟨rfl, hb4⟩; have hJ4 := Aside0.mk (hJ3.out.later hb4); clear g0 g1 gz; obtain ⟨g0, g1, gz⟩ := hJ4.out.box))
        have hJ5 := hJ4.out.put a' b' hm h0B h0l h0D
        rw [show toI pre ++ [(x : Int)] = toI (pre ++ [x]) by simp] at hJ5
        go_roundw
        case rel => exact (hend.out _ hJ5).1
        case measure => exact (hend.out _ hJ5).2
end Go.Proofs.YtdkghbbjillboaaGreatDoor.K

/- Walks: a set's iterator, gathered into a list (3): AppendSeq, Collect, List. -/
namespace Go.Proofs.YtdkghbbjillboaaGreatDoor.K
open Go.RowKit Go.Lib Go.Shelf Go.Maps Go.Sort Go.Proofs.YtdkghbbjillboaaGreatDoorW.PrintWords Go.Proofs.YtdkghbbjillboaaGreatDoor.Sp
set_option linter.unusedVariables false
set_option linter.unusedSimpArgs false
/-- The iterator's value. -/
abbrev svZ (Bm : Nat) : Value := .func (.func 149) #[] #[.pointer (some ⟨Bm, 0, none⟩)]
set_option maxRecDepth 100000 in
set_option maxHeartbeats 2000000 in
theorem append_s (f : Nat → Bool) (n : Nat) (hn : 2 ≤ n) (w00 w : World) (Bm : Nat) (hT : TabW w00) (hb00 : Below w00.heap.size w00 w) (hm : w00.heap.size ≤ Bm) (hbx : BoxAt Bm (loB f) (hiB f) w) :
    CallsIn Fence.wide n Tryz.prog (renZ.f 11) #[.slice none 0 0, svZ Bm] w fun e w' => ∃ (v : Value), e = .returned v ∧ w'.ownsRow w.heap.size (renZ.t 26) 1 v (memL f).length ((toI (memL f)).map encZ) ∧ (v = .slice none 0 0 ↔ memL f = []) ∧ Below w00.heap.size w00 w' := by
  have L : SlLaysZI.n11 Tryz.prog renZ := { laysZ with }
  have hro : Fence.wide.round = none := rfl
  have h1 : 1 ≤ n := by omega
  have mixed := L.mixed; have t0 := L.t0; have a0 := L.a0; have z0 := L.z0; have v0 := L.v0; have t24 := L.t24; have a24 := L.a24; have z24 := L.z24; have v24 := L.v24; have t26 := L.t26; have a26 := L.a26; have z26 := L.z26; have v26 := L.v26; have t28 := L.t28; have a28 := L.a28; have z28 := L.z28; have v28 := L.v28
  have hne : renZ.t 24 ≠ renZ.t 26 := fun e => by have h := L.t24; rw [e, L.t26] at h; cases h
  have u0 := run_underlying L.t0; have u24 := run_underlying L.t24; have u26 := run_underlying L.t26; have u28 := run_underlying L.t28
  obtain ⟨_, _, FG⟩ := L.f11
  refine callsIn_of_wp_marks FG rfl trivial ?_ hro
  simp only [SlBodyZ.n11_ntmps renZ, List.size_toArray, List.length_cons, List.length_nil, Nat.reduceAdd, Nat.reduceSub, Array.replicate_succ, Array.replicate_zero, List.push_toArray, List.append_toArray, List.nil_append, List.cons_append]
  gi_wp2
  refine wpIn_rangeFunc ?_
  intro fn hfn
  rw [hro]
  obtain ⟨W0, hW0⟩ : ∃ W0, w.alloc (.cells #[.slice none 0 0] (renZ.t 24)) = W0 := ⟨_, rfl⟩
  have hs0 : W0.heap.size = w.heap.size + 1 := by rw [← hW0]; simp
  have hv0 : W0.heap[w.heap.size]? = some (.cells #[.slice none 0 0] (renZ.t 24) (0, 0)) := by rw [← hW0]; exact World.alloc_heap_new w _
  have hb0 : Below w.heap.size w W0 := by rw [← hW0]; exact (Below.refl _ w).alloc (Nat.le_refl _) _
  rw [hW0]
  obtain ⟨W1, hW1⟩ : ∃ W1, (W0.alloc (.deferred (some []))).alloc (.loop (AnyZI.apRec renZ fn (svZ Bm) w.heap.size W0.heap.size .ready none)) = W1 := ⟨_, rfl⟩
  have hold : ∀ k, k < W0.heap.size → W1.heap[k]? = W0.heap[k]? := fun k hk => by
    rw [← hW1]; exact (Below.heap_alloc _ _ k (by simp; omega)).trans (Below.heap_alloc _ _ k hk)
  have hb1 : Below w.heap.size w W1 := by rw [← hW1]; exact (hb0.alloc hb0.size _).alloc (by have := hb0.size; simp; omega) _
  have hs1 : W1.heap.size = W0.heap.size + 2 := by rw [← hW1]; simp
  have hM : AnyZI.ApAt renZ w fn (svZ Bm) w.heap.size (W0.heap.size + 1) W0.heap.size [] W1 :=
    ⟨⟨_, (hold w.heap.size (by omega)).trans hv0, ⟨rfl, .inl ⟨rfl, rfl⟩⟩, by simp⟩,
     by rw [← hW1]; have := World.alloc_heap_new (W0.alloc (.deferred (some []))) (.loop (AnyZI.apRec renZ fn (svZ Bm) w.heap.size W0.heap.size .ready none)); rwa [World.size_alloc] at this,
     by rw [← hW1]; exact (Below.heap_alloc _ _ _ (by simp)).trans (World.alloc_heap_new W0 _), hb1⟩
  have eg : ∀ args w, (callFunc 149 args).run Tryz.prog w = .ok (.enter 149 args) w := enters_of Tryz.func149 (by kernel_rfl) rfl
  have hJ : JAt w00 w.heap.size Bm fn (svZ Bm) w.heap.size (W0.heap.size + 1) W0.heap.size (loB f) (hiB f) [] W1 := ⟨w, rfl, hb00, hbx, hM⟩
  refine ⟨W0.heap.size + 1, [{ target := .collected W0.heap.size, args := #[] }], W1, { target := .fn (.func 149) #[.pointer (some ⟨Bm, 0, none⟩)], args := #[.func (.yield (W0.heap.size + 1)) #[] #[]] }, W1, 149,
    #[.func (.yield (W0.heap.size + 1)) #[] #[], .pointer (some ⟨Bm, 0, none⟩)], W1, ?_, ?_, ?_, ?_, fun _ => h1, ?_⟩
  · rw [← hW1]; exact run_enterLoop_outer _ _ _ _ _
  · simp [resolve, go_sem]
  · intro f' hf'; trivial
  · simp [invoke, go_sem, eg]
  · refine (each1_in f (n - 1) (by omega) w00 hT w.heap.size Bm fn (svZ Bm) w.heap.size (W0.heap.size + 1) W0.heap.size hm (by omega) (by omega) (by omega) (by omega) (by omega) (by omega) W1 hJ).mono ?_
    rintro e W2 ⟨⟨v0, rfl⟩, a, b, w0', hs', hb', hx', h2⟩
    obtain ⟨v, hv, hrow, hnil⟩ := h2.box
    have hend := run_endLoop (P := Tryz.prog) h2.L (by simp [AnyZI.apRec])
    obtain ⟨W3, hW3⟩ : ∃ W3, W2.putObj (W0.heap.size + 1) (.loop { AnyZI.apRec renZ fn (svZ Bm) w.heap.size W0.heap.size .ready none with state := .exhausted }) = W3 := ⟨_, rfl⟩
    rw [hW3] at hend
    have hg3 : W2.grownBy W3 (some (W0.heap.size + 1)) := by rw [← hW3]; exact grownBy_putObj_a _ _ _
    have hv3 : W3.heap[w.heap.size]? = some (.cells #[v] (renZ.t 24) (0, 0)) := by rw [← hW3]; exact (World.putObj_heap_other (by omega)).trans hv
    have hK3 : W3.heap[W0.heap.size]? = some (.deferred (some [])) := by rw [← hW3]; exact (World.putObj_heap_other (by omega)).trans h2.K
    have hrow3 := hrow.kept hg3 (ownsRow_ne_a hrow h2.L (fun cur e => by first | cases e | exact hne (Obj.cells.inj e).2.1))
    have hb3 : Below w0'.heap.size w0' W3 := h2.below.grown hg3 h2.below.size (fun k e => by cases e; omega)
    obtain ⟨hc3, hf3⟩ := cell_of_box_a hv3
    clear hW3
    refine ⟨none, W3, hend, ?_⟩
    gi_wp2
    rw [← hs0]
    refine ⟨by simp, .inl ⟨_, _, rfl, run_takeDeferred hK3, ?_⟩⟩
    rw [hs'] at hrow3
    have hfin := hb3.grown (grownBy_putObj_a _ W0.heap.size (.deferred none)) hb3.size (fun k e => by cases e; omega)
    refine ⟨_, results_tmp rfl _ _ _, v, rfl, ?_, by rw [hnil]; simp, hb'.trans (hfin.mono hb'.size)⟩
    have hlen : (toI (memL f)).length = (memL f).length := by simp
    rw [← hlen]
    exact hrow3.kept (grownBy_putObj_a _ _ _) (ownsRow_ne_a hrow3 hK3 (fun cur e => by first | cases e | exact hne (Obj.cells.inj e).2.1))
set_option maxRecDepth 100000 in
set_option maxHeartbeats 1000000 in
theorem collect_s (f : Nat → Bool) (n : Nat) (hn : 3 ≤ n) (w00 w : World) (Bm : Nat) (hT : TabW w00) (hb00 : Below w00.heap.size w00 w) (hm : w00.heap.size ≤ Bm) (hbx : BoxAt Bm (loB f) (hiB f) w) :
    CallsIn Fence.wide n Tryz.prog 133 #[svZ Bm] w fun e w' => ∃ (v : Value), e = .returned v ∧ w'.ownsRow w.heap.size 3 1 v (memL f).length ((toI (memL f)).map encZ) ∧ (v = .slice none 0 0 ↔ memL f = []) ∧ Below w00.heap.size w00 w' := by
  have H : ∀ (W : World), W = w → CallsIn Fence.wide (n - 1) Tryz.prog 148 #[.slice none 0 0, svZ Bm] W fun e w' => ∃ (v : Value), e = .returned v ∧ w'.ownsRow w.heap.size 3 1 v (memL f).length ((toI (memL f)).map encZ) ∧ (v = .slice none 0 0 ↔ memL f = []) ∧ Below w00.heap.size w00 w' := by
    rintro W rfl
    exact append_s f (n - 1) (by omega) w00 W Bm hT hb00 hm hbx
  have h1 : 1 ≤ n := by omega
  refine callsIn_of_wp Tryz.func133 rfl trivial ?_ rfl
  simp only [Tryz.ntmps133, List.size_toArray, List.length_cons, List.length_nil, Nat.reduceAdd, Nat.reduceSub, Array.replicate_succ, Array.replicate_zero, List.push_toArray, List.append_toArray, List.nil_append, List.cons_append]
  gi_wp2_with (refine ⟨trivial, ?_⟩; gi_at_call 148; refine (H _ rfl).mono ?_; rintro e w' ⟨v, rfl, hrow, hnil, hb⟩)
  go_ret
  exact ⟨v, rfl, hrow, hnil, hb⟩
set_option maxHeartbeats 1000000 in
theorem each_c (a b : Nat) (w : World) : Calls Tryz.prog 134 #[setV a b] w fun e w' => e = .returned (svZ w.heap.size) ∧ BoxAt w.heap.size a b w' ∧ Below w.heap.size w w' := by
  have hu := Tryz.underlying100
  have HS := Aside0.mk (SvAt.new w a b)
  go_enter Tryz.func134, Tryz.ntmps134
  go_wp2_with fail
  go_ret
  exact ⟨rfl, ⟨HS.out.e0, HS.out.e1, HS.out.fz⟩, HS.out.bel⟩
set_option maxRecDepth 100000 in
set_option maxHeartbeats 1000000 in
/-- The squares of a set, rising. -/
theorem list_c (f : Nat → Bool) (w : World) (hT : TabW w) : Calls Tryz.prog 118 #[setF f] w fun e w' => ∃ v, e = .returned v ∧ OwnZ w' w.heap.size v (ints (memL f)) ∧ Below w.heap.size w w' := by
  show Calls Tryz.prog 118 #[setV (loB f) (hiB f)] w fun e w' => ∃ v, e = .returned v ∧ OwnZ w' w.heap.size v (ints (memL f)) ∧ Below w.heap.size w w'
  have HE := Aside0.mk (fun W => each_c (loB f) (hiB f) W)
  have HC := Aside0.mk (fun (W : World) (hb00 : Below w.heap.size w W) (Bm : Nat) (hm : w.heap.size ≤ Bm) (hbx : BoxAt Bm (loB f) (hiB f) W) => callsIn_wide.1 (collect_s f 3 (by omega) w W Bm hT hb00 hm hbx))
  have hO : ∀ (W' : World) (v : Value) (B : Nat), w.heap.size ≤ B → W'.ownsRow B 3 1 v (memL f).length ((toI (memL f)).map encZ) → OwnZ W' w.heap.size v (ints (memL f)) := by
    intro W' v B hB h
    refine OwnZ.lower ?_ hB
    have e1 : (ints (memL f)).length = (memL f).length := by simp [ints]
    unfold OwnZ
    rw [e1]
    exact h
  have hO := Aside0.mk hO
  have hu := Tryz.underlying100
  have HS := Aside0.mk (SvAt.new w (loB f) (hiB f))
  generalize loB f = a at *
  generalize hiB f = b at *
  go_enter Tryz.func118, Tryz.ntmps118
  go_wp2_with (first
    | (go_at_call 134; refine (HE.out _).mono ?_; rintro e w1 ⟨rfl, hbx, hb⟩; have HB1 := Aside0.mk (HS.out.bel.trans (hb.mono HS.out.bel.size)); have HX := Aside0.mk hbx; clear hbx hb)
    | (go_at_call 133; refine (HC.out _ HB1.out (w.heap.size + 1) (by omega) (by have h := HX.out; simpa using h)).mono ?_; rintro e w2 ⟨v, rfl, hrow, _, hb⟩))
  go_ret
  exact ⟨v, rfl, hO.out _ _ _ HB1.out.size hrow, hb⟩
end Go.Proofs.YtdkghbbjillboaaGreatDoor.K

/- Walks: the squares on which something is so; Find, Pieces. -/
namespace Go.Proofs.YtdkghbbjillboaaGreatDoor.K
open Go.RowKit Go.Lib Go.Proofs.YtdkghbbjillboaaGreatDoorW.PrintWords Go.Proofs.YtdkghbbjillboaaGreatDoor.Sp
set_option linter.unusedVariables false
set_option linter.unusedSimpArgs false
attribute [local go_sem] cel_get
/-- The result's box, the set's box. -/
structure StAt (w0 W : World) (a b : Nat) : Prop where
  r0 : W.cell? ⟨w0.heap.size, 0, none⟩ = some (.int .u64 0)
  r1 : W.cell? ⟨w0.heap.size, 1, none⟩ = some (.int .u64 0)
  fr : ∀ k, W.frozen? ⟨w0.heap.size, k, none⟩ = false
  e0 : W.cell? ⟨w0.heap.size + 1, 0, none⟩ = some (.int .u64 (a : Int))
  e1 : W.cell? ⟨w0.heap.size + 1, 1, none⟩ = some (.int .u64 (b : Int))
  fz : ∀ k, W.frozen? ⟨w0.heap.size + 1, k, none⟩ = false
  bel : Below w0.heap.size w0 W
theorem StAt.lt {w0 W : World} {a b : Nat} (h : StAt w0 W a b) : w0.heap.size + 1 < W.heap.size := World.block_lt_of_cell? W ⟨w0.heap.size + 1, 0, none⟩ h.e0
theorem StAt.below {w0 W W' : World} {a b : Nat} (h : StAt w0 W a b) (hb : Below W.heap.size W W') : StAt w0 W' a b := by
  have h2 := h.lt
  have h1 : w0.heap.size < W.heap.size := by omega
  exact ⟨(hb.cell (p := ⟨w0.heap.size, 0, none⟩) h1).trans h.r0, (hb.cell (p := ⟨w0.heap.size, 1, none⟩) h1).trans h.r1, fun k => (hb.frozen (p := ⟨w0.heap.size, k, none⟩) h1).trans (h.fr k),
    (hb.cell (p := ⟨w0.heap.size + 1, 0, none⟩) h2).trans h.e0, (hb.cell (p := ⟨w0.heap.size + 1, 1, none⟩) h2).trans h.e1, fun k => (hb.frozen (p := ⟨w0.heap.size + 1, k, none⟩) h2).trans (h.fz k), h.bel.trans (hb.mono h.bel.size)⟩
theorem StAt.new (w : World) : StAt w ((w.alloc (.cells #[.int .u64 0, .int .u64 0] 100)).alloc (.cells #[.int .u64 0, .int .u64 0] 100)) 0 0 :=
  ⟨by simp [World.cell?_alloc_at, World.cell?_alloc_past], by simp [World.cell?_alloc_at, World.cell?_alloc_past], fun k => ((below_alloc (Below.refl (w.alloc (.cells #[.int .u64 0, .int .u64 0] 100)).heap.size _) _).frozen (p := ⟨w.heap.size, k, none⟩) (by simp)).trans (World.frozen?_alloc_at _ _ _ k rfl), by simp [World.cell?_alloc_at], by simp [World.cell?_alloc_at], fun k => World.frozen?_alloc_at _ _ _ k (by simp), below_alloc (below_alloc (Below.refl _ _) _) _⟩
theorem StAt.put {w0 W : World} {a b : Nat} (h : StAt w0 W a b) (c d : Nat) : StAt w0 (putB W (w0.heap.size + 1) c d) c d := by
  have h0 := h.r0
  have h1 := h.r1
  have h2 := h.fr
  have h3 := h.e0
  have h4 := h.e1
  have h5 := h.fz
  exact ⟨by simp [go_sem, h0], by simp [go_sem, h1], fun k => by simp [go_sem, h2], by simp [go_sem, h3, h4], by simp [go_sem, h3, h4], fun k => by simp [go_sem, h5], putB_below h.bel _ _ _ (by omega)⟩
/-- The first i squares of a set. -/
abbrev uptoF (p : Nat → Bool) (i : Nat) : Nat → Bool := fun k => decide (k < i) && p k
theorem upto_zero (p : Nat → Bool) : loB (uptoF p 0) = 0 ∧ hiB (uptoF p 0) = 0 := ⟨bits_zero.2 (by simp), bits_zero.2 (by simp)⟩
theorem upto_all (p : Nat → Bool) : loB (uptoF p 90) = loB p ∧ hiB (uptoF p 90) = hiB p :=
  ⟨bitsTo_congr fun i hi => by simp [show i < 90 by omega], bitsTo_congr fun i hi => by simp [show 45 + i < 90 by omega]⟩
theorem upto_put (p : Nat → Bool) (i : Nat) (h : p i = true) : putF (uptoF p i) i = uptoF p (i + 1) := by
  funext k
  simp only [putF, uptoF]
  rcases Nat.lt_trichotomy k i with h1 | h1 | h1
  · simp [h1, show k < i + 1 by omega, show ¬ k = i by omega]
  · subst h1; simp [h]
  · simp [show ¬ k < i by omega, show ¬ k < i + 1 by omega, show ¬ k = i by omega]
theorem upto_skip (p : Nat → Bool) (i : Nat) (h : p i = false) : uptoF p i = uptoF p (i + 1) := by
  funext k
  simp only [uptoF]
  rcases Nat.lt_trichotomy k i with h1 | h1 | h1
  · simp [h1, show k < i + 1 by omega]
  · subst h1; simp [h]
  · simp [show ¬ k < i by omega, show ¬ k < i + 1 by omega]
set_option maxRecDepth 100000 in
set_option maxHeartbeats 2000000 in
/-- The squares on which something is so: the closure is asked of each square of a board. -/
theorem set_c (s : ByteArray) (hs : isBoard s = true) (p : Nat → Bool) (g : Nat) (lb : Array Value) (eg : ∀ args w, (callFunc g args).run Tryz.prog w = .ok (.enter g args) w) (w : World)
    (hg : ∀ i, i < 90 → ∀ W, Below w.heap.size w W → Calls Tryz.prog g (#[.int .u8 (cel s i : Int)] ++ lb) W fun e W' => e = .returned (.bool (p i)) ∧ Below W.heap.size W W') :
    Calls Tryz.prog 116 #[.string s, .func (.func g) #[] lb] w fun e w' => e = .returned (setF p) ∧ Below w.heap.size w w' := by
  have hsz := board_size hs
  have HI := Aside0.mk (fun W => is_c s W)
  rw [hs] at HI
  have HG := Aside0.mk hg
  have hu := Tryz.underlying100
  have HS := Aside0.mk (StAt.new w)
  clear hs hg
  go_enter Tryz.func116, Tryz.ntmps116
  go_wp2_with (go_at_call 43; refine (HI.out _).mono ?_; rintro e w1 ⟨rfl, hb⟩; have HS1 := Aside0.mk (HS.out.below hb); clear hb)
  go_loopg [9] 90 (fun gg s9 wr => ∃ i : Nat, s9 = .int .i64 i ∧ i + gg = 90 ∧ Aside0 (StAt w wr (loB (uptoF p i)) (hiB (uptoF p i))))
  case atStart => exact ⟨0, rfl, by omega, ⟨by rw [(upto_zero p).1, (upto_zero p).2]; exact HS1.out⟩⟩
  case round =>
    obtain ⟨i, rfl, hi, HR⟩ := hrel
    clear HS HS1
    cases gk with
    | zero =>
      obtain rfl : i = 90 := by omega
      rw [(upto_all p).1, (upto_all p).2] at HR
      obtain ⟨r0, r1, fr, e0, e1, fz, _⟩ := HR.out
      have hne : w.heap.size + 1 ≠ w.heap.size := by omega
      go_wp2_with fail
      refine bodyPost_ret (by simp [results, Tryz.results116, go_sem, r0, r1]; try rfl) rfl ?_
      refine ⟨rfl, ?_⟩
      (repeat' (first | (with_reducible exact Below.refl _ _) | (with_reducible refine pw_below_drewN ?_ _) | (with_reducible refine below_alloc ?_ _) | (with_reducible refine Below.drew ?_) | (with_reducible refine Below.setCell ?_ ?_ _) | (simp; done))) <;> first | exact HR.out.bel | (simp; done) | (simp; omega)
    | succ gk =>
      have hi90 : i < 90 := by omega
      have i1 : (i : Int) < 90 := by omega
      have i2 : (i : Int) < (s.size : Int) := by omega
      have i3 : (0 : Int) ≤ (i : Int) := by omega
      have HC := Aside0.mk (HG.out i hi90)
      have HWi := Aside0.mk (fun W => with_c (uptoF p i) i hi90 W)
      have HI1 := Aside0.mk (show i + 1 + gk = 90 by omega)
      clear hi
      cases hp : p i
      case false =>
        rw [hp] at HC
        rw [upto_skip p i hp] at HR
        go_wp2_with (go_at_fn g; refine (HC.out _ HR.out.bel).mono ?_; rintro e w2 ⟨rfl, hb⟩; have HR2 := Aside0.mk (HR.out.below hb); clear hb)
        go_roundg gk
        case measure => omega
        case rel => exact ⟨i + 1, rfl, HI1.out, HR2⟩
      case true =>
        rw [hp] at HC
        rw [upto_put p i hp] at HWi
        have HWi : Aside0 (∀ W, Calls Tryz.prog 132 #[setV (loB (uptoF p i)) (hiB (uptoF p i)), .int .i64 (i : Int)] W fun e w' => e = .returned (setV (loB (uptoF p (i + 1))) (hiB (uptoF p (i + 1)))) ∧ Below W.heap.size W w') := HWi
        generalize loB (uptoF p i) = a at *
        generalize hiB (uptoF p i) = b at *
        go_upto_region 7 with (go_at_fn g; refine (HC.out _ HR.out.bel).mono ?_; rintro e w2 ⟨rfl, hb⟩; have HR2 := Aside0.mk (HR.out.below hb); clear hb HR)
        obtain ⟨r0, r1, fr, e0, e1, fz, _⟩ := HR2.out
        go_wp2_with (go_at_call 132; refine (HWi.out _).mono ?_; rintro e w3 ⟨rfl, hb⟩; have HR3 := Aside0.mk (HR2.out.below hb); clear hb HR2 r0 r1 fr e0 e1 fz; obtain ⟨r0, r1, fr, e0, e1, fz, _⟩ := HR3.out)
        go_roundg gk
        case measure => omega
        case rel => exact ⟨i + 1, rfl, HI1.out, ⟨HR3.out.put _ _⟩⟩
/-- .. and of no board, nothing. -/
theorem set_no (s : ByteArray) (hs : isBoard s = false) (fv : Value) (w : World) :
    Calls Tryz.prog 116 #[.string s, fv] w fun e w' => e = .returned (setF fun _ => false) ∧ Below w.heap.size w w' := by
  have HI := Aside0.mk (fun W => is_c s W)
  rw [hs] at HI
  have hu := Tryz.underlying100
  have HS := Aside0.mk (StAt.new w)
  have HE := Aside0.mk (show setV 0 0 = setF (fun _ => false) by
    have h1 : loB (fun _ => false) = 0 := bits_zero.2 (by simp)
    have h2 : hiB (fun _ => false) = 0 := bits_zero.2 (by simp)
    show setV 0 0 = setV (loB fun _ => false) (hiB fun _ => false)
    rw [h1, h2])
  clear hs
  go_enter Tryz.func116, Tryz.ntmps116
  go_wp2_with (go_at_call 43; refine (HI.out _).mono ?_; rintro e w1 ⟨rfl, hb⟩; have HS1 := Aside0.mk (HS.out.below hb); clear hb; obtain ⟨r0, r1, fr, e0, e1, fz, _⟩ := HS1.out)
  have hne : w.heap.size + 1 ≠ w.heap.size := by omega
  refine bodyPost_ret (by simp [results, Tryz.results116, go_sem, r0, r1]; try rfl) rfl ?_
  refine ⟨by rw [← HE.out]; rfl, ?_⟩
  (repeat' (first | (with_reducible exact Below.refl _ _) | (with_reducible refine pw_below_drewN ?_ _) | (with_reducible refine below_alloc ?_ _) | (with_reducible refine Below.drew ?_) | (with_reducible refine Below.setCell ?_ ?_ _) | (simp; done))) <;> first | exact HS1.out.bel | (simp; done) | (simp; omega)
/-- The squares of a piece; those of a side. -/
def findS (s : ByteArray) (c : Nat) : List Nat := if isBoard s = true then (List.range 90).filter fun i => decide (cel s i = c) else []
def piecesS (s : ByteArray) (a : Int) : List Nat := if isBoard s = true then (List.range 90).filter fun i => decide (0 ≤ a) && decide (sideN (cel s i) = a) else []
end Go.Proofs.YtdkghbbjillboaaGreatDoor.K

/- Walks: Find, Pieces. -/
namespace Go.Proofs.YtdkghbbjillboaaGreatDoor.K
open Go.RowKit Go.Lib Go.Proofs.YtdkghbbjillboaaGreatDoorW.PrintWords Go.Proofs.YtdkghbbjillboaaGreatDoor.Sp
set_option linter.unusedVariables false
set_option linter.unusedSimpArgs false
theorem find1_c (x c : Nat) (A : Addr) (w : World) (h : w.cell? A = some (.int .u8 (c : Int))) :
    Calls Tryz.prog 117 #[.int .u8 (x : Int), .pointer (some A)] w fun e w' => e = .returned (.bool (decide (x = c))) ∧ Below w.heap.size w w' := by
  have hd : ((x : Int) == (c : Int)) = decide (x = c) := by rw [Bool.eq_iff_iff]; simp; omega
  go_enter Tryz.func117, Tryz.ntmps117
  go_wp2_with fail
  go_ret
  refine ⟨ret_bool ?_, by (repeat' (first | (with_reducible exact Below.refl _ _) | (with_reducible refine pw_below_drewN ?_ _) | (with_reducible refine below_alloc ?_ _) | (with_reducible refine Below.drew ?_) | (with_reducible refine Below.setCell ?_ ?_ _) | (simp; done))) <;> first | exact Below.refl _ _ | (simp; done)⟩
  first | rfl | (rw [Bool.eq_iff_iff]; simp; try omega)
set_option maxHeartbeats 1000000 in
theorem pieces1_c (x : Nat) (hx : x < 256) (a : Int) (A : Addr) (w : World) (h : w.cell? A = some (.int .i64 a)) :
    Calls Tryz.prog 120 #[.int .u8 (x : Int), .pointer (some A)] w fun e w' => e = .returned (.bool (decide (0 ≤ a) && decide (sideN x = a))) ∧ Below w.heap.size w w' := by
  have HS := Aside0.mk (fun W => side_c x hx W)
  generalize sideN x = y at *
  clear hx
  by_cases ha : 0 ≤ a
  · have hq : decide (0 ≤ a) = true := decide_eq_true ha
    go_enter Tryz.func120, Tryz.ntmps120
    go_wp2_with fail
    go_quiet (first | (go_at_call 44; exact Calls.quiet_of_same (HS.out _)))
    go_wp2_with fail
    go_ret
    refine ⟨ret_bool ?_, pw_below_drewN (Below.refl _ _) _⟩
    rw [Bool.eq_iff_iff]; simp_all <;> try omega
  · have hq : decide (0 ≤ a) = false := decide_eq_false ha
    clear HS
    go_enter Tryz.func120, Tryz.ntmps120
    go_wp2_with fail
    go_quiet (first | fail)
    go_wp2_with fail
    go_ret
    refine ⟨ret_bool ?_, pw_below_drewN (Below.refl _ _) _⟩
    rw [Bool.eq_iff_iff]; simp_all <;> try omega
set_option maxHeartbeats 1000000 in
theorem find_c (s : ByteArray) (c : Nat) (w : World) (hT : TabW w) : Calls Tryz.prog 98 #[.string s, .int .u8 (c : Int)] w fun e w' => ∃ v, e = .returned v ∧ OwnZ w' w.heap.size v (ints (findS s c)) ∧ Below w.heap.size w w' := by
  have HT := Aside0.mk (fun (W : World) (hb : Below w.heap.size w W) => hT.below hb)
  have HB0 := Aside0.mk (below_alloc (Below.refl w.heap.size w) (.cells #[.int .u8 (c : Int)] 5))
  cases hs : isBoard s
  case true =>
    rw [show findS s c = memL (fun i => decide (cel s i = c)) by unfold findS; rw [if_pos hs]; rfl]
    have HF := Aside0.mk (fun (W : World) (hc : W.cell? ⟨w.heap.size, 0, none⟩ = some (.int .u8 (c : Int))) => set_c s hs (fun i => decide (cel s i = c)) 117 #[.pointer (some ⟨w.heap.size, 0, none⟩)] (enters_of Tryz.func117 (by kernel_rfl) rfl) W
      (fun i hi W' hb => find1_c (cel s i) c _ W' ((hb.cell (World.block_lt_of_cell? W _ hc)).trans hc)))
    have HL := Aside0.mk (fun (W : World) (hT : TabW W) => list_c (fun i => decide (cel s i = c)) W hT)
    have hc : (w.alloc (.cells #[.int .u8 (c : Int)] 5)).cell? ⟨w.heap.size, 0, none⟩ = some (.int .u8 (c : Int)) := by simp [World.cell?_alloc_at]
    have HC := Aside0.mk hc
    clear hT hs hc
    generalize (fun i => decide (cel s i = c)) = p at *
    go_enter Tryz.func98, Tryz.ntmps98
    go_wp2_with (first
      | (go_at_call 116; refine (HF.out _ HC.out).mono ?_; rintro e w1 ⟨rfl, hb⟩; have HB1 := Aside0.mk (HB0.out.trans (hb.mono HB0.out.size)); clear hb)
      | (go_at_call 118; refine (HL.out _ (HT.out _ HB1.out)).mono ?_; rintro e w2 ⟨v, rfl, hv, hb⟩; have HB2 := Aside0.mk (HB1.out.trans (hb.mono HB1.out.size)); have HV := Aside0.mk (hv.lower HB1.out.size); clear hb hv))
    go_ret
    exact ⟨v, rfl, HV.out, HB2.out⟩
  case false =>
    rw [show findS s c = memL (fun _ => false) by unfold findS; rw [if_neg (by rw [hs]; decide)]; simp [memL]]
    have HF := Aside0.mk (fun (fv : Value) (W : World) => set_no s hs fv W)
    have HL := Aside0.mk (fun (W : World) (hT : TabW W) => list_c (fun _ => false) W hT)
    clear hT hs
    generalize (fun _ : Nat => false) = p at *
    go_enter Tryz.func98, Tryz.ntmps98
    go_wp2_with (first
      | (go_at_call 116; refine (HF.out _ _).mono ?_; rintro e w1 ⟨rfl, hb⟩; have HB1 := Aside0.mk (HB0.out.trans (hb.mono HB0.out.size)); clear hb)
      | (go_at_call 118; refine (HL.out _ (HT.out _ HB1.out)).mono ?_; rintro e w2 ⟨v, rfl, hv, hb⟩; have HB2 := Aside0.mk (HB1.out.trans (hb.mono HB1.out.size)); have HV := Aside0.mk (hv.lower HB1.out.size); clear hb hv))
    go_ret
    exact ⟨v, rfl, HV.out, HB2.out⟩
set_option maxHeartbeats 1000000 in
theorem pieces_c (s : ByteArray) (c : Int) (w : World) (hT : TabW w) : Calls Tryz.prog 102 #[.string s, .int .i64 c] w fun e w' => ∃ v, e = .returned v ∧ OwnZ w' w.heap.size v (ints (piecesS s c)) ∧ Below w.heap.size w w' := by
  have HT := Aside0.mk (fun (W : World) (hb : Below w.heap.size w W) => hT.below hb)
  have HB0 := Aside0.mk (below_alloc (Below.refl w.heap.size w) (.cells #[.int .i64 c] 3))
  cases hs : isBoard s
  case true =>
    rw [show piecesS s c = memL (fun i => decide (0 ≤ c) && decide (sideN (cel s i) = c)) by unfold piecesS; rw [if_pos hs]; rfl]
    have HF := Aside0.mk (fun (W : World) (hc : W.cell? ⟨w.heap.size, 0, none⟩ = some (.int .i64 c)) => set_c s hs (fun i => decide (0 ≤ c) && decide (sideN (cel s i) = c)) 120 #[.pointer (some ⟨w.heap.size, 0, none⟩)] (enters_of Tryz.func120 (by kernel_rfl) rfl) W
      (fun i hi W' hb => pieces1_c (cel s i) (cel_lt s i) c _ W' ((hb.cell (World.block_lt_of_cell? W _ hc)).trans hc)))
    have HL := Aside0.mk (fun (W : World) (hT : TabW W) => list_c (fun i => decide (0 ≤ c) && decide (sideN (cel s i) = c)) W hT)
    have hc : (w.alloc (.cells #[.int .i64 c] 3)).cell? ⟨w.heap.size, 0, none⟩ = some (.int .i64 c) := by simp [World.cell?_alloc_at]
    have HC := Aside0.mk hc
    clear hT hs hc
    generalize (fun i => decide (0 ≤ c) && decide (sideN (cel s i) = c)) = p at *
    go_enter Tryz.func102, Tryz.ntmps102
    go_wp2_with (first
      | (go_at_call 116; refine (HF.out _ HC.out).mono ?_; rintro e w1 ⟨rfl, hb⟩; have HB1 := Aside0.mk (HB0.out.trans (hb.mono HB0.out.size)); clear hb)
      | (go_at_call 118; refine (HL.out _ (HT.out _ HB1.out)).mono ?_; rintro e w2 ⟨v, rfl, hv, hb⟩; have HB2 := Aside0.mk (HB1.out.trans (hb.mono HB1.out.size)); have HV := Aside0.mk (hv.lower HB1.out.size); clear hb hv))
    go_ret
    exact ⟨v, rfl, HV.out, HB2.out⟩
  case false =>
    rw [show piecesS s c = memL (fun _ => false) by unfold piecesS; rw [if_neg (by rw [hs]; decide)]; simp [memL]]
    have HF := Aside0.mk (fun (fv : Value) (W : World) => set_no s hs fv W)
    have HL := Aside0.mk (fun (W : World) (hT : TabW W) => list_c (fun _ => false) W hT)
    clear hT hs
    generalize (fun _ : Nat => false) = p at *
    go_enter Tryz.func102, Tryz.ntmps102
    go_wp2_with (first
      | (go_at_call 116; refine (HF.out _ _).mono ?_; rintro e w1 ⟨rfl, hb⟩; have HB1 := Aside0.mk (HB0.out.trans (hb.mono HB0.out.size)); clear hb)
      | (go_at_call 118; refine (HL.out _ (HT.out _ HB1.out)).mono ?_; rintro e w2 ⟨v, rfl, hv, hb⟩; have HB2 := Aside0.mk (HB1.out.trans (hb.mono HB1.out.size)); have HV := Aside0.mk (hv.lower HB1.out.size); clear hb hv))
    go_ret
    exact ⟨v, rfl, HV.out, HB2.out⟩
end Go.Proofs.YtdkghbbjillboaaGreatDoor.K

/- Walks: Put. -/
namespace Go.Proofs.YtdkghbbjillboaaGreatDoor.K
open Go.RowKit Go.Lib Go.Proofs.YtdkghbbjillboaaGreatDoorW.PrintWords Go.Proofs.YtdkghbbjillboaaGreatDoor.Sp
set_option linter.unusedVariables false
set_option linter.unusedSimpArgs false
/-- A text with a byte on a square. -/
def putT (s : ByteArray) (n c : Nat) : ByteArray := strOfNums ((bytesOf s).set n (c : Int))
def putS (s : ByteArray) (n : Int) (c : Nat) : ByteArray := if isBoard s = true ∧ 0 ≤ n ∧ n < 90 ∧ cellB c = true then putT s n.toNat c else s
set_option maxRecDepth 100000 in
set_option maxHeartbeats 2000000 in
theorem put_yes (s : ByteArray) (n c : Nat) (hs : isBoard s = true) (hn : n < 90) (hc : cellB c = true) (hc2 : c < 256) (w : World) : Calls Tryz.prog 100 #[.string s, .int .i64 (n : Int), .int .u8 (c : Int)] w fun e w' => e = .returned (.string (putT s n c)) ∧ Below w.heap.size w w' := by
  have hz := board_size hs
  have HI := Aside0.mk (fun W => is_c s W)
  rw [hs] at HI
  have HQ := Aside0.mk (fun W => isSquare_c (n : Int) W)
  rw [show decide (0 ≤ (n : Int) ∧ (n : Int) < 90) = true by simp; omega] at HQ
  have HC := Aside0.mk (fun W => isCell_c c hc2 W)
  rw [hc] at HC
  have kb := fun W => print_bytes (P := Tryz.prog) 9 68 5 Tryz.underlying9 Tryz.underlying68 Tryz.underlying5 s W
  have h0 : 0 ≤ (n : Int) := by omega
  have h1 : (n : Int) < (s.size : Int) := by omega
  have HLT := Aside0.mk (show n < s.size by omega)
  have HP := Aside0.mk (show putT s n c = strOfNums ((bytesOf s).set n (c : Int)) from rfl)
  generalize putT s n c = t at *
  clear hs hn hc hc2 hz
  go_enter Tryz.func100, Tryz.ntmps100
  go_wp2_with (first | (go_at_call 75; refine (HQ.out _).mono ?_; rintro e w' ⟨rfl, rfl⟩) | (go_at_call 78; refine (HC.out _).mono ?_; rintro e w' ⟨rfl, rfl⟩) | (go_at_call 43; refine (HI.out _).mono ?_; rintro e w1 ⟨rfl, hb1⟩; have HB1 := Aside0.mk hb1; clear hb1; have hN := Aside0.mk (bytes_at_new w1 5 s); obtain ⟨hc0, hf0⟩ := hN.out n (by rw [bytesOf_length]; exact HLT.out); have kc := bytes_string (hN.out.set n (c : Int)) 68 Tryz.underlying68 (cap := grownCap w1 s.size 0 5); rw [List.length_set, bytesOf_length, ← HP.out] at kc))
  go_ret
  have hb' := HB1.out
  exact ⟨rfl, (bytes_below hb' (below_size hb') 5 s).setCell (p := ⟨w1.heap.size, n, none⟩) (below_size hb') _⟩
set_option maxRecDepth 100000 in
set_option maxHeartbeats 2000000 in
theorem put_not (s : ByteArray) (n : Int) (c : Nat) (hc2 : c < 256) (h : ¬ (isBoard s = true ∧ 0 ≤ n ∧ n < 90 ∧ cellB c = true)) (w : World) : Calls Tryz.prog 100 #[.string s, .int .i64 n, .int .u8 (c : Int)] w fun e w' => e = .returned (.string s) ∧ Below w.heap.size w w' := by
  have HI := Aside0.mk (fun W => is_c s W)
  have HQ := Aside0.mk (fun W => isSquare_c n W)
  have HC := Aside0.mk (fun W => isCell_c c hc2 W)
  have HB := Aside0.mk (Below.refl w.heap.size w)
  clear hc2
  cases hq : decide (0 ≤ n ∧ n < 90) with
  | false =>
    rw [hq] at HQ
    clear h hq HC HI
    go_enter Tryz.func100, Tryz.ntmps100
    go_wp2_with (first | (go_at_call 75; refine (HQ.out _).mono ?_; rintro e w' ⟨rfl, rfl⟩))
    go_ret
    exact ⟨rfl, HB.out⟩
  | true =>
    have hq' := of_decide_eq_true hq
    rw [hq] at HQ
    clear hq
    cases hc : cellB c with
    | false =>
      rw [hc] at HC
      clear h hc HI hq'
      go_enter Tryz.func100, Tryz.ntmps100
      go_wp2_with (first | (go_at_call 75; refine (HQ.out _).mono ?_; rintro e w' ⟨rfl, rfl⟩) | (go_at_call 78; refine (HC.out _).mono ?_; rintro e w' ⟨rfl, rfl⟩))
      go_ret
      exact ⟨rfl, HB.out⟩
    | true =>
      have hs : isBoard s = false := by
        cases hs : isBoard s
        · rfl
        · exact absurd ⟨hs, hq'.1, hq'.2, hc⟩ h
      rw [hc] at HC
      rw [hs] at HI
      clear h hc hs hq'
      go_enter Tryz.func100, Tryz.ntmps100
      go_wp2_with (first | (go_at_call 75; refine (HQ.out _).mono ?_; rintro e w' ⟨rfl, rfl⟩) | (go_at_call 78; refine (HC.out _).mono ?_; rintro e w' ⟨rfl, rfl⟩) | (go_at_call 43; refine (HI.out _).mono ?_; rintro e w1 ⟨rfl, hb1⟩; have HB1 := Aside0.mk hb1; clear hb1))
      go_ret
      exact ⟨rfl, HB1.out⟩
theorem put_c (s : ByteArray) (n : Int) (c : Nat) (hc : c < 256) (w : World) : Calls Tryz.prog 100 #[.string s, .int .i64 n, .int .u8 (c : Int)] w fun e w' => e = .returned (.string (putS s n c)) ∧ Below w.heap.size w w' := by
  by_cases h : isBoard s = true ∧ 0 ≤ n ∧ n < 90 ∧ cellB c = true
  · rw [show putS s n c = putT s n.toNat c from if_pos h]
    have e : n = ((n.toNat : Nat) : Int) := by omega
    have := put_yes s n.toNat c h.1 (by omega) h.2.2.2 hc w
    rw [← e] at this
    exact this
  · rw [show putS s n c = s from if_neg h]
    exact put_not s n c hc h w
end Go.Proofs.YtdkghbbjillboaaGreatDoor.K

/- Walks: reach.Between, reach.Can. -/
namespace Go.Proofs.YtdkghbbjillboaaGreatDoor.K
open Go.RowKit Go.Lib Go.Proofs.YtdkghbbjillboaaGreatDoorW.PrintWords Go.Proofs.YtdkghbbjillboaaGreatDoor.Sp
set_option linter.unusedVariables false
set_option linter.unusedSimpArgs false
attribute [local go_sem] cel_get   -- for this text's walks alone
set_option maxRecDepth 100000 in
set_option maxHeartbeats 2000000 in
theorem betw_yes (s : ByteArray) (hbd : isBoard s = true) (a b : Nat) (ha : a < 90) (hb : b < 90) (w : World) : Calls Tryz.prog 63 #[.string s, .int .i64 (a : Int), .int .i64 (b : Int)] w fun e w' => e = .returned (.int .i64 (betwN (cel s) a b)) ∧ Below w.heap.size w w' := by
  have hs := board_size hbd
  have HI := Aside0.mk (fun W => is_c s W)
  rw [hbd] at HI
  have HQA := Aside0.mk (fun W => isq_c (a : Int) W)
  rw [show decide (0 ≤ (a : Int) ∧ (a : Int) < 90) = true by simp; omega] at HQA
  have HQB := Aside0.mk (fun W => isq_c (b : Int) W)
  rw [show decide (0 ≤ (b : Int) ∧ (b : Int) < 90) = true by simp; omega] at HQB
  have HRA := Aside0.mk (fun W => rank_c a ha W)
  have HRB := Aside0.mk (fun W => rank_c b hb W)
  have HFA := Aside0.mk (fun W => file_c a ha W)
  have HFB := Aside0.mk (fun W => file_c b hb W)
  clear hbd
  have a0 : 0 ≤ (a : Int) := by omega
  have a1 : (a : Int) < 90 := by omega
  have b0 : 0 ≤ (b : Int) := by omega
  have b1 : (b : Int) < 90 := by omega
  have q0 : ((a : Int) == (b : Int)) = (a == b) := by rw [Bool.eq_iff_iff, beq_iff_eq, beq_iff_eq]; omega
  have q1 : (((a / 9 : Nat) : Int) == ((b / 9 : Nat) : Int)) = (a / 9 == b / 9) := by rw [Bool.eq_iff_iff, beq_iff_eq, beq_iff_eq]; omega
  have q2 : (((a % 9 : Nat) : Int) == ((b % 9 : Nat) : Int)) = (a % 9 == b % 9) := by rw [Bool.eq_iff_iff, beq_iff_eq, beq_iff_eq]; omega
  by_cases h : a = b
  · have e0 : (a == b) = true := by simp [h]
    rw [show betwN (cel s) a b = -1 by unfold betwN; rw [if_pos h]]
    rw [e0] at q0
    clear h q1 q2 e0
    generalize a / 9 = ra at *
    generalize b / 9 = rb at *
    generalize a % 9 = fa at *
    generalize b % 9 = fb at *
    go_enter Tryz.func63, Tryz.ntmps63
    go_wp2_with (first
      | (go_at_call 43; refine (HI.out _).mono ?_; rintro e w1 ⟨rfl, hb1⟩; have HB1 := Aside0.mk hb1; clear hb1)
      | (go_at_call 99; (with_reducible refine (HQA.out _).mono ?_); rintro e w2 ⟨rfl, rfl⟩)
      | (go_at_call 99; (with_reducible refine (HQB.out _).mono ?_); rintro e w2 ⟨rfl, rfl⟩)
      | (go_at_call 80; (with_reducible refine (HRA.out _).mono ?_); rintro e w2 ⟨rfl, rfl⟩)
      | (go_at_call 80; (with_reducible refine (HRB.out _).mono ?_); rintro e w2 ⟨rfl, rfl⟩)
      | (go_at_call 62; (with_reducible refine (HFA.out _).mono ?_); rintro e w2 ⟨rfl, rfl⟩)
      | (go_at_call 62; (with_reducible refine (HFB.out _).mono ?_); rintro e w2 ⟨rfl, rfl⟩))
    go_ret
    exact ⟨rfl, HB1.out⟩
  have e0 : (a == b) = false := by simp [h]
  rw [e0] at q0
  by_cases hr : a / 9 = b / 9
  case neg =>
    have e1 : (a / 9 == b / 9) = false := by simp [hr]
    rw [e1] at q1
    by_cases hc : a % 9 = b % 9
    case neg =>
      rw [show betwN (cel s) a b = -1 by unfold betwN; rw [if_neg h, if_neg (by omega)]]
      have e2 : (a % 9 == b % 9) = false := by simp [hc]
      rw [e2] at q2
      clear h hr hc e0 e1 e2
      generalize a / 9 = ra at *
      generalize b / 9 = rb at *
      generalize a % 9 = fa at *
      generalize b % 9 = fb at *
      go_enter Tryz.func63, Tryz.ntmps63
      go_wp2_with (first
        | (go_at_call 43; refine (HI.out _).mono ?_; rintro e w1 ⟨rfl, hb1⟩; have HB1 := Aside0.mk hb1; clear hb1)
        | (go_at_call 99; (with_reducible refine (HQA.out _).mono ?_); rintro e w2 ⟨rfl, rfl⟩)
        | (go_at_call 99; (with_reducible refine (HQB.out _).mono ?_); rintro e w2 ⟨rfl, rfl⟩)
        | (go_at_call 80; (with_reducible refine (HRA.out _).mono ?_); rintro e w2 ⟨rfl, rfl⟩)
        | (go_at_call 80; (with_reducible refine (HRB.out _).mono ?_); rintro e w2 ⟨rfl, rfl⟩)
        | (go_at_call 62; (with_reducible refine (HFA.out _).mono ?_); rintro e w2 ⟨rfl, rfl⟩)
        | (go_at_call 62; (with_reducible refine (HFB.out _).mono ?_); rintro e w2 ⟨rfl, rfl⟩))
      go_ret
      exact ⟨rfl, HB1.out⟩
    have e2 : (a % 9 == b % 9) = true := by simp [hc]
    rw [e2] at q2
    obtain ⟨m, hL, hM⟩ := betwL_col a b h hr hc
    rw [show betwN (cel s) a b = (cntN s (min a b) 9 m : Int) by unfold betwN cntN; rw [if_neg h, if_pos (by omega), hL]]
    have HX := Aside0.mk (show max (a : Int) (b : Int) = ((min a b : Nat) : Int) + 9 * m + 9 by omega)
    have HN := Aside0.mk (show min (a : Int) (b : Int) = ((min a b : Nat) : Int) by omega)
    have HLT := Aside0.mk (show min a b + 9 * m < 90 - 9 by omega)
    generalize min a b = mn at *
    have HS := Aside0.mk hs
    clear hL hM e0 e1 e2 h hr hc hs
    generalize a / 9 = ra at *
    generalize b / 9 = rb at *
    generalize a % 9 = fa at *
    generalize b % 9 = fb at *
    go_enter Tryz.func63, Tryz.ntmps63
    go_wp2_with (first
      | (go_at_call 43; refine (HI.out _).mono ?_; rintro e w1 ⟨rfl, hb1⟩; have HB1 := Aside0.mk hb1; clear hb1)
      | (go_at_call 99; (with_reducible refine (HQA.out _).mono ?_); rintro e w2 ⟨rfl, rfl⟩)
      | (go_at_call 99; (with_reducible refine (HQB.out _).mono ?_); rintro e w2 ⟨rfl, rfl⟩)
      | (go_at_call 80; (with_reducible refine (HRA.out _).mono ?_); rintro e w2 ⟨rfl, rfl⟩)
      | (go_at_call 80; (with_reducible refine (HRB.out _).mono ?_); rintro e w2 ⟨rfl, rfl⟩)
      | (go_at_call 62; (with_reducible refine (HFA.out _).mono ?_); rintro e w2 ⟨rfl, rfl⟩)
      | (go_at_call 62; (with_reducible refine (HFB.out _).mono ?_); rintro e w2 ⟨rfl, rfl⟩))
    go_loopg [8, 9] m (fun gg s8 s9 wr => ∃ j i c : Nat, s8 = .int .i64 c ∧ s9 = .int .i64 i ∧ j + gg = m ∧ Aside0 (Below w.heap.size w wr) ∧ Aside0 (i = mn + 9 * (j + 1) ∧ c = cntN s mn 9 j))
    case atStart => exact ⟨0, mn + 9, 0, rfl, by rw [HN.out]; rfl, by omega, HB1, ⟨by omega, rfl⟩⟩
    case round =>
      obtain ⟨j, i, c, rfl, rfl, hjg, HW, HI⟩ := hrel
      have HG := Aside0.mk hjg
      clear hjg
      by_cases hlt : j < m
      · have k1 : decide ((i : Int) < max (a : Int) (b : Int)) = true := decide_eq_true (by rw [HX.out, HI.out.1]; omega)
        have k2 : 0 ≤ (i : Int) := by omega
        have k3 : (i : Int) < (s.size : Int) := by rw [HS.out, HI.out.1]; have := HLT.out; omega
        have k4 : (i : Int) ≤ 90 := by rw [HI.out.1]; have := HLT.out; omega
        have k5 : (c : Int) ≤ 90 := by rw [HI.out.2]; have := cntN_le s mn 9 j; have := HLT.out; omega
        have hcs := cntN_succ s mn 9 j
        rw [← HI.out.1, ← HI.out.2] at hcs
        generalize hx : cel s i = x at hcs
        have HX2 := Aside0.mk hcs
        have q : ((x : Int) != 46) = (x != 46) := by rw [Bool.eq_iff_iff, bne_iff_ne, bne_iff_ne]; omega
        clear hcs
        cases h46 : (x != 46)
        all_goals
          rw [h46] at q
          have H46 := Aside0.mk h46
          clear h46
          go_wp2_with fail
          go_roundg (m - (j + 1))
          case measure => have := HG.out; omega
          case rel =>
            have h46 := H46.out
            have hcs := HX2.out
            first
            | (rw [if_pos (by simpa using h46)] at hcs; exact ⟨j + 1, i + 9, c, rfl, by go_num, by have := HG.out; omega, HW, ⟨by have := HI.out.1; omega, by omega⟩⟩)
            | (rw [if_neg (by simpa using h46)] at hcs; exact ⟨j + 1, i + 9, c + 1, by go_num, by go_num, by have := HG.out; omega, HW, ⟨by have := HI.out.1; omega, by omega⟩⟩)
      · have k1 : decide ((i : Int) < max (a : Int) (b : Int)) = false := decide_eq_false (by rw [HX.out, HI.out.1]; have := HG.out; omega)
        go_wp2_with fail
        go_ret
        exact ⟨ret_int (by rw [HI.out.2, show j = m by have := HG.out; omega]), HW.out⟩
  have e1 : (a / 9 == b / 9) = true := by simp [hr]
  rw [e1] at q1
  obtain ⟨m, hL, hM⟩ := betwL_row a b h hr
  rw [show betwN (cel s) a b = (cntN s (min a b) 1 m : Int) by unfold betwN cntN; rw [if_neg h, if_pos (by omega), hL]]
  have HX := Aside0.mk (show max (a : Int) (b : Int) = ((min a b : Nat) : Int) + 1 * m + 1 by omega)
  have HN := Aside0.mk (show min (a : Int) (b : Int) = ((min a b : Nat) : Int) by omega)
  have HLT := Aside0.mk (show min a b + 1 * m < 90 - 1 by omega)
  generalize min a b = mn at *
  have HS := Aside0.mk hs
  clear hL hM e0 e1 q2 h hr hs
  generalize a / 9 = ra at *
  generalize b / 9 = rb at *
  generalize a % 9 = fa at *
  generalize b % 9 = fb at *
  go_enter Tryz.func63, Tryz.ntmps63
  go_wp2_with (first
    | (go_at_call 43; refine (HI.out _).mono ?_; rintro e w1 ⟨rfl, hb1⟩; have HB1 := Aside0.mk hb1; clear hb1)
    | (go_at_call 99; (with_reducible refine (HQA.out _).mono ?_); rintro e w2 ⟨rfl, rfl⟩)
    | (go_at_call 99; (with_reducible refine (HQB.out _).mono ?_); rintro e w2 ⟨rfl, rfl⟩)
    | (go_at_call 80; (with_reducible refine (HRA.out _).mono ?_); rintro e w2 ⟨rfl, rfl⟩)
    | (go_at_call 80; (with_reducible refine (HRB.out _).mono ?_); rintro e w2 ⟨rfl, rfl⟩)
    | (go_at_call 62; (with_reducible refine (HFA.out _).mono ?_); rintro e w2 ⟨rfl, rfl⟩)
    | (go_at_call 62; (with_reducible refine (HFB.out _).mono ?_); rintro e w2 ⟨rfl, rfl⟩))
  go_loopg [8, 9] m (fun gg s8 s9 wr => ∃ j i c : Nat, s8 = .int .i64 c ∧ s9 = .int .i64 i ∧ j + gg = m ∧ Aside0 (Below w.heap.size w wr) ∧ Aside0 (i = mn + 1 * (j + 1) ∧ c = cntN s mn 1 j))
  case atStart => exact ⟨0, mn + 1, 0, rfl, by rw [HN.out]; rfl, by omega, HB1, ⟨by omega, rfl⟩⟩
  case round =>
    obtain ⟨j, i, c, rfl, rfl, hjg, HW, HI⟩ := hrel
    have HG := Aside0.mk hjg
    clear hjg
    by_cases hlt : j < m
    · have k1 : decide ((i : Int) < max (a : Int) (b : Int)) = true := decide_eq_true (by rw [HX.out, HI.out.1]; omega)
      have k2 : 0 ≤ (i : Int) := by omega
      have k3 : (i : Int) < (s.size : Int) := by rw [HS.out, HI.out.1]; have := HLT.out; omega
      have k4 : (i : Int) ≤ 90 := by rw [HI.out.1]; have := HLT.out; omega
      have k5 : (c : Int) ≤ 90 := by rw [HI.out.2]; have := cntN_le s mn 1 j; have := HLT.out; omega
      have hcs := cntN_succ s mn 1 j
      rw [← HI.out.1, ← HI.out.2] at hcs
      generalize hx : cel s i = x at hcs
      have HX2 := Aside0.mk hcs
      have q : ((x : Int) != 46) = (x != 46) := by rw [Bool.eq_iff_iff, bne_iff_ne, bne_iff_ne]; omega
      clear hcs
      cases h46 : (x != 46)
      all_goals
        rw [h46] at q
        have H46 := Aside0.mk h46
        clear h46
        go_wp2_with fail
        go_roundg (m - (j + 1))
        case measure => have := HG.out; omega
        case rel =>
          have h46 := H46.out
          have hcs := HX2.out
          first
          | (rw [if_pos (by simpa using h46)] at hcs; exact ⟨j + 1, i + 1, c, rfl, by go_num, by have := HG.out; omega, HW, ⟨by have := HI.out.1; omega, by omega⟩⟩)
          | (rw [if_neg (by simpa using h46)] at hcs; exact ⟨j + 1, i + 1, c + 1, by go_num, by go_num, by have := HG.out; omega, HW, ⟨by have := HI.out.1; omega, by omega⟩⟩)
    · have k1 : decide ((i : Int) < max (a : Int) (b : Int)) = false := decide_eq_false (by rw [HX.out, HI.out.1]; have := HG.out; omega)
      go_wp2_with fail
      go_ret
      exact ⟨ret_int (by rw [HI.out.2, show j = m by have := HG.out; omega]), HW.out⟩
end Go.Proofs.YtdkghbbjillboaaGreatDoor.K

/- Walks: reach.Between, reach.Can; references. -/
namespace Go.Proofs.YtdkghbbjillboaaGreatDoor.K
open Go.RowKit Go.Lib Go.Proofs.YtdkghbbjillboaaGreatDoorW.PrintWords Go.Proofs.YtdkghbbjillboaaGreatDoor.Sp
set_option linter.unusedVariables false
set_option linter.unusedSimpArgs false
def betwS (s : ByteArray) (a b : Int) : Int := if isBoard s = true ∧ (0 ≤ a ∧ a < 90) ∧ (0 ≤ b ∧ b < 90) then betwN (cel s) a.toNat b.toNat else -1
set_option maxRecDepth 100000 in
set_option maxHeartbeats 2000000 in
theorem betw_no (s : ByteArray) (a b : Int) (h : ¬ (isBoard s = true ∧ (0 ≤ a ∧ a < 90) ∧ (0 ≤ b ∧ b < 90))) (w : World) : Calls Tryz.prog 63 #[.string s, .int .i64 a, .int .i64 b] w fun e w' => e = .returned (.int .i64 (-1)) ∧ Below w.heap.size w w' := by
  have HI := Aside0.mk (fun W => is_c s W)
  have HQA := Aside0.mk (fun W => isq_c a W)
  have HQB := Aside0.mk (fun W => isq_c b W)
  cases hs : isBoard s with
  | false =>
    rw [hs] at HI
    clear h hs HQA HQB
    go_enter Tryz.func63, Tryz.ntmps63
    go_wp2_with (go_at_call 43; refine (HI.out _).mono ?_; rintro e w1 ⟨rfl, hb1⟩; have HB1 := Aside0.mk hb1; clear hb1)
    go_ret
    exact ⟨rfl, HB1.out⟩
  | true =>
    rw [hs] at HI
    cases ha : decide (0 ≤ a ∧ a < 90) with
    | false =>
      rw [ha] at HQA
      clear h hs HQB ha
      go_enter Tryz.func63, Tryz.ntmps63
      go_wp2_with (first | (go_at_call 43; refine (HI.out _).mono ?_; rintro e w1 ⟨rfl, hb1⟩; have HB1 := Aside0.mk hb1; clear hb1) | (go_at_call 99; (with_reducible refine (HQA.out _).mono ?_); rintro e w2 ⟨rfl, rfl⟩))
      go_ret
      exact ⟨rfl, HB1.out⟩
    | true =>
      have hb : decide (0 ≤ b ∧ b < 90) = false := decide_eq_false fun hb => h ⟨hs, of_decide_eq_true ha, hb⟩
      rw [ha] at HQA
      rw [hb] at HQB
      clear h hs ha hb
      go_enter Tryz.func63, Tryz.ntmps63
      go_wp2_with (first | (go_at_call 43; refine (HI.out _).mono ?_; rintro e w1 ⟨rfl, hb1⟩; have HB1 := Aside0.mk hb1; clear hb1) | (go_at_call 99; (with_reducible refine (HQA.out _).mono ?_); rintro e w2 ⟨rfl, rfl⟩; clear HQA) | (go_at_call 99; (with_reducible refine (HQB.out _).mono ?_); rintro e w2 ⟨rfl, rfl⟩))
      go_ret
      exact ⟨rfl, HB1.out⟩
theorem betw_c (s : ByteArray) (a b : Int) (w : World) : Calls Tryz.prog 63 #[.string s, .int .i64 a, .int .i64 b] w fun e w' => e = .returned (.int .i64 (betwS s a b)) ∧ Below w.heap.size w w' := by
  by_cases h : isBoard s = true ∧ (0 ≤ a ∧ a < 90) ∧ (0 ≤ b ∧ b < 90)
  · rw [show betwS s a b = betwN (cel s) a.toNat b.toNat from if_pos h]
    have e1 : a = ((a.toNat : Nat) : Int) := by omega
    have e2 : b = ((b.toNat : Nat) : Int) := by omega
    have := betw_yes s h.1 a.toNat b.toNat (by omega) (by omega) w
    rw [← e1, ← e2] at this
    exact this
  · rw [show betwS s a b = -1 from if_neg h]
    exact betw_no s a b h w
/-- Does the piece on a square reach another one? -/
def canS (s : ByteArray) (a b : Int) : Bool := (allS s a).any (fun n => (n : Int) == b)
theorem allS_len (s : ByteArray) (a : Int) : (allS s a).length ≤ 1000000 := by
  unfold allS
  split
  · unfold allN
    refine Nat.le_trans (List.length_filter_le _ _) ?_
    simp
  · simp
theorem can_c (s : ByteArray) (a b : Int) (w : World) : Calls Tryz.prog 104 #[.string s, .int .i64 a, .int .i64 b] w fun e w' => e = .returned (.bool (canS s a b)) ∧ Below w.heap.size w w' := by
  have HA := Aside0.mk (fun W => all_c s a W)
  have HC := Aside0.mk (fun (W : World) (B : Nat) (v : Value) (h : IntsAt W B v (allS s a)) => containsI_c W B v (allS s a) b h (allS_len s a))
  have HE := Aside0.mk (show canS s a b = (allS s a).any (fun n => (n : Int) == b) from rfl)
  generalize canS s a b = r at *
  rw [← HE.out] at HC
  generalize allS s a = l at *
  go_enter Tryz.func104, Tryz.ntmps104
  go_wp2_with (first
    | (go_at_call 111; refine (HA.out _).mono ?_; rintro e w1 ⟨v, rfl, hv, hb⟩; have HV := Aside0.mk hv; have HB := Aside0.mk hb; clear hv hb)
    | (go_at_call 110; refine (HC.out _ _ _ HV.out).mono ?_; rintro e w2 ⟨rfl, rfl⟩))
  go_ret
  exact ⟨rfl, HB.out⟩
end Go.Proofs.YtdkghbbjillboaaGreatDoor.K

/- Walks: check.isSide, Attackers. -/
namespace Go.Proofs.YtdkghbbjillboaaGreatDoor.K
open Go.RowKit Go.Lib Go.Proofs.YtdkghbbjillboaaGreatDoorW.PrintWords Go.Proofs.YtdkghbbjillboaaGreatDoor.Sp
set_option linter.unusedVariables false
set_option linter.unusedSimpArgs false
theorem isSide_c (a : Int) (w : World) : Calls Tryz.prog 97 #[.int .i64 a] w fun e w' => e = .returned (.bool (decide (a = 0 ∨ a = 1))) ∧ w' = w := by
  cases h0 : (a == 0)
  all_goals
    have H0 := Aside0.mk h0
    go_enter Tryz.func97, Tryz.ntmps97
    go_wp2_with fail
    go_ret
    refine ⟨ret_bool ?_, rfl⟩
    have h0 := H0.out
    rw [Bool.eq_iff_iff]; simp_all
/-- The file of anything. -/
def fileS (n : Int) : Int := if 0 ≤ n ∧ n < 90 then n % 9 else -1
theorem file_all (n : Int) (w : World) : Calls Tryz.prog 62 #[.int .i64 n] w fun e w' => e = .returned (.int .i64 (fileS n)) ∧ w' = w := by
  by_cases h : 0 ≤ n ∧ n < 90
  · have e1 : n = ((n.toNat : Nat) : Int) := by omega
    have := file_c n.toNat (by omega) w
    rw [← e1] at this
    rw [show fileS n = ((n.toNat % 9 : Nat) : Int) by unfold fileS; rw [if_pos h]; omega]
    exact this
  · rw [show fileS n = -1 from if_neg h]
    have HQ := isSquare_c n w
    rw [decide_eq_false h] at HQ
    have HQ := Aside0.mk HQ
    clear h
    go_enter Tryz.func62, Tryz.ntmps62
    go_wp2_with (first | (go_at_call 75; refine HQ.out.mono ?_; rintro e w' ⟨rfl, rfl⟩))
    go_ret
    exact ⟨rfl, rfl⟩
theorem att_closure (s : ByteArray) (n x : Int) (B1 B2 : Nat) (w : World) (c1 : w.cell? ⟨B1, 0, none⟩ = some (.string s)) (c2 : w.cell? ⟨B2, 0, none⟩ = some (.int .i64 n)) :
    Calls Tryz.prog 103 #[.int .i64 x, .pointer (some ⟨B1, 0, none⟩), .pointer (some ⟨B2, 0, none⟩)] w fun e w' => e = .returned (.bool (!canS s x n)) ∧ Below w.heap.size w w' := by
  have HC := Aside0.mk (fun W => can_c s x n W)
  generalize canS s x n = r at *
  go_enter Tryz.func103, Tryz.ntmps103
  go_wp2_with (go_at_call 104; refine (HC.out _).mono ?_; rintro e w1 ⟨rfl, hb⟩; have HB := Aside0.mk hb; clear hb)
  go_ret
  exact ⟨rfl, HB.out⟩
theorem att_del (s : ByteArray) (n : Int) (B1 B2 : Nat) (h12 : B1 < B2) (v : Value) (l : List Int) (W : World) (c1 : W.cell? ⟨B1, 0, none⟩ = some (.string s)) (c2 : W.cell? ⟨B2, 0, none⟩ = some (.int .i64 n)) (ho : OwnZ W (B2 + 1) v l) :
    Calls Tryz.prog 101 #[v, .func (.func 103) #[] #[.pointer (some ⟨B1, 0, none⟩), .pointer (some ⟨B2, 0, none⟩)]] W fun e w' => ∃ v', e = .returned v' ∧ OwnZ w' (B2 + 1) v' (l.filter (fun y => canS s y n)) ∧ Below (B2 + 1) W w' := by
  have := del_Z 103 #[.pointer (some ⟨B1, 0, none⟩), .pointer (some ⟨B2, 0, none⟩)] (fun y => !canS s y n) (enters_of Tryz.func103 (by kernel_rfl) rfl) (B2 + 1) v l W (World.block_lt_of_cell? W _ c2) ho (by
    intro b hb _ _ W2 y hy hk
    have key : ∀ g : Nat, g < W.heap.size → g ≠ b → W2.cell? ⟨g, 0, none⟩ = W.cell? ⟨g, 0, none⟩ := fun g hg hne => by
      have := hk.2 g hg hne (by simp)
      unfold World.cell?; simp only [this]
    exact att_closure s n y B1 B2 W2 ((key B1 (World.block_lt_of_cell? W _ c1) (by omega)).trans c1) ((key B2 (World.block_lt_of_cell? W _ c2) (by omega)).trans c2))
  simpa using this
/-- The other side's pawn. -/
def pawnO (a : Int) : Nat := if a = 0 then 112 else 80
def attS (s : ByteArray) (n a : Int) : List Nat := if (a = 0 ∨ a = 1) ∧ 0 ≤ n ∧ n < 90 then (piecesS (putS s n (pawnO a)) a).filter (fun f => canS (putS s n (pawnO a)) (f : Int) n) else []
/-- The boxes of Attackers. -/
structure AtAt (w0 W : World) (s : ByteArray) (n : Int) : Prop where
  c1 : W.cell? ⟨w0.heap.size, 0, none⟩ = some (.string s)
  c2 : W.cell? ⟨w0.heap.size + 1, 0, none⟩ = some (.int .i64 n)
  fz : W.frozen? ⟨w0.heap.size, 0, none⟩ = false
  bel : Below w0.heap.size w0 W
theorem AtAt.lt {w0 W : World} {s : ByteArray} {n : Int} (h : AtAt w0 W s n) : w0.heap.size + 1 < W.heap.size := World.block_lt_of_cell? W _ h.c2
theorem AtAt.below {w0 W W' : World} {s : ByteArray} {n : Int} (h : AtAt w0 W s n) (hb : Below W.heap.size W W') : AtAt w0 W' s n := by
  have := h.lt
  exact ⟨(hb.cell (p := ⟨w0.heap.size, 0, none⟩) (by show w0.heap.size < _; omega)).trans h.c1, (hb.cell (p := ⟨w0.heap.size + 1, 0, none⟩) (by show w0.heap.size + 1 < _; omega)).trans h.c2, (hb.frozen (p := ⟨w0.heap.size, 0, none⟩) (by show w0.heap.size < _; omega)).trans h.fz, h.bel.trans (hb.mono h.bel.size)⟩
theorem AtAt.new (w : World) (s : ByteArray) (n : Int) : AtAt w ((w.alloc (.cells #[.string s] 9)).alloc (.cells #[.int .i64 n] 3)) s n :=
  ⟨by simp [World.cell?_alloc_at, World.cell?_alloc_past], by simp [World.cell?_alloc_at], ((below_alloc (Below.refl (w.alloc (.cells #[.string s] 9)).heap.size _) _).frozen (p := ⟨w.heap.size, 0, none⟩) (by simp)).trans (World.frozen?_alloc_at _ _ _ 0 rfl), below_alloc (below_alloc (Below.refl _ _) _) _⟩
theorem AtAt.put {w0 W : World} {s : ByteArray} {n : Int} (h : AtAt w0 W s n) (t : ByteArray) : AtAt w0 (W.setCell ⟨w0.heap.size, 0, none⟩ (.string t)) t n := by
  have h1 := h.c1
  have h2 := h.c2
  have h3 := h.fz
  exact ⟨by simp [go_sem, h1], by simp [go_sem, h2], by simp [go_sem, h3], h.bel.setCell (p := ⟨w0.heap.size, 0, none⟩) (Nat.le_refl _) _⟩
set_option maxRecDepth 100000 in
set_option maxHeartbeats 2000000 in
theorem att_no (s : ByteArray) (n a : Int) (h : ¬ ((a = 0 ∨ a = 1) ∧ 0 ≤ n ∧ n < 90)) (w : World) : Calls Tryz.prog 64 #[.string s, .int .i64 n, .int .i64 a] w fun e w' => ∃ v, e = .returned v ∧ IntsAt w' w.heap.size v [] ∧ Below w.heap.size w w' := by
  have HS := Aside0.mk (fun W => isSide_c a W)
  have HF := Aside0.mk (fun W => file_all n W)
  have HA := Aside0.mk (AtAt.new w s n)
  have HV := Aside0.mk (fun (W : World) => ints_of (l := []) (own_znil W w.heap.size))
  cases ha : decide (a = 0 ∨ a = 1) with
  | false =>
    rw [ha] at HS
    clear h ha
    go_enter Tryz.func64, Tryz.ntmps64
    go_wp2_with (go_at_call 97; refine (HS.out _).mono ?_; rintro e w1 ⟨rfl, rfl⟩)
    go_ret
    exact ⟨_, rfl, HV.out _, HA.out.bel⟩
  | true =>
    rw [ha] at HS
    have hf : fileS n = -1 := if_neg fun hn => h ⟨of_decide_eq_true ha, hn⟩
    rw [hf] at HF
    clear h ha hf
    go_enter Tryz.func64, Tryz.ntmps64
    go_wp2_with (first | (go_at_call 97; refine (HS.out _).mono ?_; rintro e w1 ⟨rfl, rfl⟩) | (go_at_call 62; refine (HF.out _).mono ?_; rintro e w1 ⟨rfl, rfl⟩))
    go_ret
    exact ⟨_, rfl, HV.out _, HA.out.bel⟩
end Go.Proofs.YtdkghbbjillboaaGreatDoor.K
