/- Walks and plain laws that several statements lean on, joined: no statement of the seat is proved here. -/
import Derived.Test.YtcanbidenhcohaaB4
import Derived.Test.YtcanbidenhcohaaB3

/- PseudoTurn: the walk. -/
namespace Go.Proofs.Ytcanbidenhcohaa.K
open Go.RowKit Go.Lib Go.Proofs.YtcanbidenhcohaaW.PrintWords Go.Proofs.Ytcanbidenhcohaa.Sp
set_option linter.unusedVariables false
set_option linter.unusedSimpArgs false
attribute [local go_sem] cel_get   -- for this text's walks alone
/-- Turn's box beside its result's. -/
structure TwAt (w0 W : World) (p : Pos) : Prop where
  box : BoxP W w0.heap.size p
  r0 : W.cell? ⟨w0.heap.size + 1, 0, none⟩ = some (.string { data := #[] })
  r1 : W.cell? ⟨w0.heap.size + 1, 1, none⟩ = some (.int .i64 0)
  r2 : W.cell? ⟨w0.heap.size + 1, 2, none⟩ = some (.int .i64 0)
  r3 : W.cell? ⟨w0.heap.size + 1, 3, none⟩ = some (.int .i64 0)
  fr : ∀ k, W.frozen? ⟨w0.heap.size + 1, k, none⟩ = false
  bel : Below w0.heap.size w0 W
theorem TwAt.below {w0 W W' : World} {p : Pos} (h : TwAt w0 W p) (hb : Below W.heap.size W W') : TwAt w0 W' p :=
  ⟨h.box.below hb, below_cell hb _ _ _ h.r0, below_cell hb _ _ _ h.r1, below_cell hb _ _ _ h.r2, below_cell hb _ _ _ h.r3, fun k => (hb.frozen (p := ⟨w0.heap.size + 1, k, none⟩) (show w0.heap.size + 1 < W.heap.size from World.block_lt_of_cell? W ⟨w0.heap.size + 1, 0, none⟩ h.r0)).trans (h.fr k), below_go h.bel hb⟩
set_option maxRecDepth 100000 in
set_option maxHeartbeats 4000000 in
theorem pturn_c (p : Pos) (hb : isBoard p.cells = true) (hs : p.side = 0 ∨ p.side = 1) (w : World) : Calls Try.prog 37 #[posV p] w fun e w' => e = .returned (posV (turnP p)) ∧ Below w.heap.size w w' := by
  have HT := Aside0.mk (fun W => rturn_c p.cells hb W)
  have hu := Try.underlying38
  have s0 : 0 ≤ p.side := by omega
  have s1 : p.side ≤ 1 := by omega
  have k1 : wrap64 (1 - p.side) = 1 - p.side := by unfold wrap64; omega
  have k2 : IntKind.i64.wrap (1 - p.side) = 1 - p.side := by rw [IntKind.wrap_i64]; omega
  unfold turnP
  generalize turnS p.cells = ts at *
  have HB := Aside0.mk (BoxP.new w p)
  have HW0 := Aside0.mk (below_new (Below.refl w.heap.size w) (.cells #[.string p.cells, .int .i64 p.side, .int .i64 p.clock, .int .i64 p.full] 38))
  clear hb hs
  go_enter Try.func37, Try.ntmps37
  go_wp2_with fail
  have HTW := Aside0.mk (show TwAt w ((w.alloc (.cells #[.string p.cells, .int .i64 p.side, .int .i64 p.clock, .int .i64 p.full] 38)).alloc (.cells #[.string { data := #[] }, .int .i64 0, .int .i64 0, .int .i64 0] 38)) p from ⟨HB.out.below (below_alloc (Below.refl _ _) _), by simp [World.cell?_alloc_at], by simp [World.cell?_alloc_at], by simp [World.cell?_alloc_at], by simp [World.cell?_alloc_at], fun k => by simp, below_new HW0.out _⟩)
  clear HB HW0
  generalize (w.alloc (.cells #[.string p.cells, .int .i64 p.side, .int .i64 p.clock, .int .i64 p.full] 38)).alloc (.cells #[.string { data := #[] }, .int .i64 0, .int .i64 0, .int .i64 0] 38) = W1 at *
  obtain ⟨e0, e1, e2, e3⟩ := HTW.out.box
  have HT1 := Aside0.mk (HTW.out.below (pw_below_drewN (Below.refl _ _) 1) : TwAt w W1.drew p)
  clear HTW
  have hne : w.heap.size + 1 ≠ w.heap.size := by omega
  go_region_held3 (fun W => W.cell? ⟨w.heap.size, 0, none⟩ = some (.string p.cells) ∧ W.cell? ⟨w.heap.size, 1, none⟩ = some (.int .i64 p.side) ∧ W.cell? ⟨w.heap.size, 2, none⟩ = some (.int .i64 p.clock) ∧ W.cell? ⟨w.heap.size, 3, none⟩ = some (.int .i64 p.full)) (go_keep)
    (first
      | (go_at_call 21; refine (HT.out _).mono ?_; rintro e w2 ⟨rfl, hb⟩; have HT2 := Aside0.mk (HT1.out.below hb); clear HT1 hb e0 e1 e2 e3; obtain ⟨e0, e1, e2, e3⟩ := HT2.out.box; have r0 := HT2.out.r0; have r1 := HT2.out.r1; have r2 := HT2.out.r2; have r3 := HT2.out.r3; have fr := HT2.out.fr))
  all_goals
    go_wp2_with fail
    refine bodyPost_ret (by simp [results, Try.results37, go_sem, r0, r1, r2, r3]; try rfl) rfl ?_
    refine ⟨rfl, ?_⟩
    (repeat' (first | (with_reducible exact Below.refl _ _) | (with_reducible refine pw_below_drewN ?_ _) | (with_reducible refine below_alloc ?_ _) | (with_reducible refine Below.drew ?_) | (with_reducible refine Below.setCell ?_ ?_ _) | (simp; done))) <;> first | exact HT2.out.bel | (simp; done) | (simp; omega)
theorem rev_at {l : List Mv} {i : Nat} (hi : i < l.length) : (l.map flipM).reverse[l.length - 1 - i]? = some (flipM l[i]) := by
  rw [List.getElem?_reverse (by rw [List.length_map]; omega), List.length_map, show l.length - 1 - (l.length - 1 - i) = i by omega, List.getElem?_map, List.getElem?_eq_getElem hi]
  rfl
set_option maxRecDepth 100000 in
set_option maxHeartbeats 4000000 in
theorem turnLaw (w : World) (p : Pos) (hmx : p.cells.size ≤ maxLen) : Calls Try.prog 10 #[posV p] w fun e w' => e = .returned (.bool true) ∧ Below w.heap.size w w' := by
  have HLV := Aside0.mk (fun W => live_c W)
  have hu := Try.underlying38
  have hu2 := Try.underlying42
  by_cases h200 : p.cells.size > 200
  · have h1 : (200 : Int) < (p.cells.size : Int) := by omega
    have HW0 := Aside0.mk (below_new (Below.refl w.heap.size w) (.cells #[.string p.cells, .int .i64 p.side, .int .i64 p.clock, .int .i64 p.full] 38))
    clear h200 hmx
    go_enter Try.func10, Try.ntmps10
    go_wp2_with (go_at_call 30; refine (HLV.out _).mono ?_; rintro e w1 ⟨rfl, hb⟩; have HW1 := Aside0.mk (below_go HW0.out hb); clear hb)
    go_ret
    exact ⟨rfl, HW1.out⟩
  have h1 : (p.cells.size : Int) ≤ 200 := by omega
  have HRC := Aside0.mk (fun W => rcheck_c p hmx W)
  clear h200 hmx
  have HB0 := Aside0.mk (BoxP.new w p)
  have HW0 := Aside0.mk (below_new (Below.refl w.heap.size w) (.cells #[.string p.cells, .int .i64 p.side, .int .i64 p.clock, .int .i64 p.full] 38))
  by_cases hck : checkP p = 0
  case neg =>
    have hne : (checkP p != 0) = true := by simpa using hck
    generalize checkP p = ck at *
    clear hck
    go_enter Try.func10, Try.ntmps10
    go_wp2_with (first | (go_at_call 36; refine (HRC.out _).mono ?_; rintro e w1 ⟨rfl, hb⟩; have HW1 := Aside0.mk (below_go HW0.out hb); clear hb) | (go_at_call 30; refine (HLV.out _).mono ?_; rintro e w2 ⟨rfl, hb⟩; have HW2 := Aside0.mk (below_go HW1.out hb); clear hb))
    go_ret
    exact ⟨rfl, HW2.out⟩
  have HM := Aside0.mk (fun W => moves_c p W)
  have HMQ := Aside0.mk (fun W => moves_c (turnP p) W)
  have hargs := argOk_yes (checkP_parts hck).1
  have HPT := Aside0.mk (fun W => pturn_c p hargs.1 hargs.2.1 W)
  have HMEM := Aside0.mk (fun m (h : m ∈ gathP p (fun _ => true)) => gath_mem h)
  have HLL := Aside0.mk (gath_len p (fun _ => true))
  rw [gath_turn hck] at HMQ
  rw [hck] at HRC
  clear hck hargs
  generalize gathP p (fun _ => true) = l at *
  have HREV := Aside0.mk (fun i (hi : i < l.length) => rev_at hi)
  have HKL := Aside0.mk (show (l.map flipM).reverse.length = l.length by simp)
  generalize (l.map flipM).reverse = k at *
  generalize turnP p = q at *
  obtain ⟨q0, q1, q2, q3⟩ := q
  go_enter Try.func10, Try.ntmps10
  go_wp2_with fail
  refine (HRC.out _).mono ?_
  rintro e w1 ⟨rfl, hb⟩
  have HB1 := Aside0.mk (HB0.out.below hb)
  have HW1 := Aside0.mk (below_go HW0.out hb)
  clear hb HB0 HW0
  obtain ⟨e0, e1, e2, e3⟩ := HB1.out
  go_wp2_with fail
  refine (HM.out _).mono ?_
  rintro e w2 ⟨v1, rfl, h2, hb⟩
  have HX := Aside0.mk (show OneAt w w2 p v1 l from ⟨HB1.out.below hb, h2.reads.lower HW1.out.size, below_go HW1.out hb⟩)
  clear h2 hb HB1 HW1 e0 e1 e2 e3
  obtain ⟨A1, cap1, rfl⟩ := HX.out.m1.form
  obtain ⟨e0, e1, e2, e3⟩ := HX.out.box
  go_wp2_with fail
  refine (HPT.out _).mono ?_
  rintro e w3 ⟨rfl, hb⟩
  have HX3 := Aside0.mk (HX.out.below hb)
  clear hb HX e0 e1 e2 e3
  go_wp2_with fail
  refine (HMQ.out _).mono ?_
  rintro e w4 ⟨v2, rfl, h3, hb⟩
  have HT := Aside0.mk (show TwoAt w w4 p (.slice A1 l.length cap1) v2 l k from ⟨HX3.out.box.below hb, HX3.out.m1.below hb, h3.reads.lower HX3.out.bel.size, below_go HX3.out.bel hb⟩)
  clear h3 hb HX3
  obtain ⟨A2, cap2, rfl⟩ := HT.out.m2.form
  rw [HKL.out]
  have hnl : ((l.length : Int) != (l.length : Int)) = false := by simp
  go_wp2_with fail
  have HX := HT
  clear HT
  go_loopg [5] l.length (fun gg s5 wr => ∃ i : Nat, s5 = .int .i64 i ∧ i + gg = l.length ∧ Aside0 (TwoAt w wr p (.slice A1 l.length cap1) (.slice A2 l.length cap2) l k))
  case atStart => exact ⟨0, rfl, by omega, ⟨by have := HX.out; rw [HKL.out] at this; exact this⟩⟩
  case round =>
    clear HX
    obtain ⟨i, rfl, hi, HX⟩ := hrel
    cases gk with
    | zero =>
      have hn : ¬ ((i : Int) < (l.length : Int)) := by omega
      clear hi
      go_wp2_with (go_at_call 30; refine (HLV.out _).mono ?_; rintro e w5 ⟨rfl, hb⟩; have HW5 := Aside0.mk (below_go HX.out.bel hb); clear hb)
      go_ret
      exact ⟨rfl, HW5.out⟩
    | succ g =>
      have hn : (i : Int) < (l.length : Int) := by omega
      have hil : i < l.length := by omega
      have hib : (i : Int) ≤ 8100 := by have := HLL.out; omega
      have hlb : (l.length : Int) ≤ 8100 := by have := HLL.out; omega
      have HI := Aside0.mk (show i + 1 + g = l.length by omega)
      obtain ⟨_, ha90, hb90, _⟩ := HMEM.out _ (List.getElem_mem hil)
      obtain ⟨g1, cap1', hA1, _, hg1, hx1⟩ := HX.out.m1.at (fun h => by rw [h] at hil; simp at hil)
      simp only [Value.slice.injEq, true_and] at hA1
      obtain ⟨rfl, rfl⟩ := hA1
      obtain ⟨x0, x1⟩ := hx1 i hil
      have hkl : l.length - 1 - i < k.length := by rw [HKL.out]; omega
      obtain ⟨g2, cap2', hA2, _, hg2, hx2⟩ := HX.out.m2.at (fun h => by rw [h] at hkl; simp at hkl)
      rw [HKL.out] at hA2
      simp only [Value.slice.injEq, true_and] at hA2
      obtain ⟨rfl, rfl⟩ := hA2
      obtain ⟨y0, y1⟩ := hx2 _ hkl
      have hrv := HREV.out i hil
      rw [List.getElem?_eq_getElem hkl] at hrv
      rw [Option.some.inj hrv] at y0 y1
      have hj : (l.length : Int) - 1 - (i : Int) = ((l.length - 1 - i : Nat) : Int) := by omega
      have HJ0 := Aside0.mk (show l.length - 1 - i < l.length by omega)
      clear hx1 hx2 hrv hi hkl
      generalize l[i] = m at *
      obtain ⟨ma, mb⟩ := m
      unfold flipM at y0 y1
      simp only at ha90 hb90 x0 x1 y0 y1
      rw [show ((89 - ma : Nat) : Int) = 89 - (ma : Int) by omega] at y0
      rw [show ((89 - mb : Nat) : Int) = 89 - (mb : Int) by omega] at y1
      have hm0 : (ma : Int) < 90 := by omega
      have hm1 : (mb : Int) < 90 := by omega
      generalize l.length - 1 - i = j at *
      have hjl : (j : Int) < (l.length : Int) := by have := HJ0.out; omega
      have hj0 : 0 ≤ (j : Int) := by omega
      clear ha90 hb90 hil
      go_wp2_with fail
      go_quiet (fail)
      go_wp2_with fail
      go_roundg g
      case measure => omega
      case rel => exact ⟨i + 1, by go_num, by have := HI.out; omega, ⟨HX.out.below (pw_below_drewN (Below.refl _ _) _)⟩⟩
end Go.Proofs.Ytcanbidenhcohaa.K
