/- Walks and plain laws that several statements lean on, joined: no statement of the seat is proved here. -/
import Derived.Test.YtllbkppdkldmiaaGreatDoorB6

/- CheckRight: the walk. -/
namespace Go.Proofs.YtllbkppdkldmiaaGreatDoor.K
open Go.RowKit Go.Lib Go.Proofs.YtllbkppdkldmiaaGreatDoorW.PrintWords Go.Proofs.YtllbkppdkldmiaaGreatDoor.Sp
set_option linter.unusedVariables false
set_option linter.unusedSimpArgs false
/-- The other side to move. -/
def otherP (p : Pos) : Pos := ⟨p.cells, 1 - p.side, p.clock, p.full⟩
theorem check_other {p : Pos} (h : checkP p = 0) : checkP (otherP p) = 0 := by
  have hok : argOk p = true := by
    cases hok : argOk p
    · unfold checkP at h; rw [hok] at h; simp at h
    · rfl
  have hok2 : argOk (otherP p) = true := by
    obtain ⟨h1, h2, h3, h4, h5, h6⟩ := argOk_yes hok
    unfold argOk otherP
    simp only [Bool.and_eq_true, decide_eq_true_eq]
    exact ⟨h1, by omega, h3, h4, h5, h6⟩
  unfold checkP at h ⊢
  rw [hok] at h
  rw [hok2]
  exact h
theorem well_zero {p : Pos} (h : wellS p = 0) : checkP p = 0 ∧ facS p.cells = false ∧ (p.side = 0 ∨ p.side = 1) := by
  unfold wellS at h
  by_cases hc : checkP p = 0
  · rw [if_neg (by simpa using hc)] at h
    refine ⟨hc, ?_, ?_⟩
    · cases hf : facS p.cells
      · rfl
      · rw [hf] at h; simp at h
    · cases hok : argOk p
      · unfold checkP at hc; rw [hok] at hc; simp at hc
      · exact (argOk_yes hok).2.1
  · rw [if_pos hc] at h; exact absurd h hc
/-- What is wrong with it, the other side to move. -/
theorem well_other {p : Pos} (h : wellS p = 0) : wellS (otherP p) = if inS p.cells p.side = true then 5 else 0 := by
  obtain ⟨h1, h2, h3⟩ := well_zero h
  unfold wellS
  rw [if_neg (by simpa using check_other h1), show (otherP p).cells = p.cells from rfl, if_neg (by rw [h2]; decide), show (1 : Int) - (otherP p).side = p.side by show (1 : Int) - (1 - p.side) = p.side; omega]
theorem WeAt.side {w0 W : World} {p : Pos} (h : WeAt w0 W p) (b : Int) : WeAt w0 (W.setCell ⟨w0.heap.size, 1, none⟩ (.int .i64 b)) ⟨p.cells, b, p.clock, p.full⟩ := by
  obtain ⟨h0, h1, h2, h3, hb⟩ := h
  exact ⟨by simp [go_sem, h0], by simp [go_sem, h1], by simp [go_sem, h2], by simp [go_sem, h3], hb.setCell (p := ⟨w0.heap.size, 1, none⟩) (Nat.le_refl _) _⟩
theorem WeAt.keep {w0 W W' : World} {p : Pos} {n : Nat} (h : WeAt w0 W p) (hn : w0.heap.size < n) (hb : Below n W W') : WeAt w0 W' p :=
  ⟨(hb.cell (p := ⟨w0.heap.size, 0, none⟩) hn).trans h.c0, (hb.cell (p := ⟨w0.heap.size, 1, none⟩) hn).trans h.c1, (hb.cell (p := ⟨w0.heap.size, 2, none⟩) hn).trans h.c2, (hb.cell (p := ⟨w0.heap.size, 3, none⟩) hn).trans h.c3, h.bel.trans (hb.mono (by omega))⟩
set_option maxRecDepth 100000 in
set_option maxHeartbeats 4000000 in
theorem rightLaw (w : World) (p : Pos) (hmx : p.cells.size ≤ maxLen) (hT : TabW w) : Calls Tryz.prog 8 #[posV p] w fun e w' => e = .returned (.bool true) ∧ Below w.heap.size w w' := by
  have HT := Aside0.mk (fun (W : World) (hb : Below w.heap.size w W) => hT.below hb)
  have HLV := Aside0.mk (fun (W : World) (hT : TabW W) => live7_c W hT)
  have hu := Tryz.underlying33
  have HP0 := Aside0.mk (WeAt.new w p)
  by_cases h200 : p.cells.size > 200
  · have h1 : (200 : Int) < (p.cells.size : Int) := by omega
    clear h200 hmx hT
    go_enter Tryz.func8, Tryz.ntmps8
    go_wp2_with (go_at_call 16; refine (HLV.out _ (HT.out _ HP0.out.bel)).mono ?_; rintro e w1 ⟨rfl, hb⟩; have HW1 := Aside0.mk (HP0.out.bel.trans (hb.mono HP0.out.bel.size)); clear hb)
    go_ret
    exact ⟨rfl, HW1.out⟩
  have h1 : (p.cells.size : Int) ≤ 200 := by omega
  have HA := Aside0.mk (fun (W : World) (hT : TabW W) => well_c p W hT)
  by_cases hw0 : wellS p = 0
  case neg =>
    have h2 : (wellS p != 0) = true := by simpa using hw0
    generalize wellS p = r at *
    clear h200 hmx hT hw0
    go_enter Tryz.func8, Tryz.ntmps8
    go_wp2_with (first
      | (go_at_call 31; refine (HA.out _ (HT.out _ HP0.out.bel)).mono ?_; rintro e w1 ⟨rfl, hb⟩; have HP1 := Aside0.mk (HP0.out.below hb); clear hb)
      | (go_at_call 16; refine (HLV.out _ (HT.out _ HP1.out.bel)).mono ?_; rintro e w2 ⟨rfl, hb⟩; have HP2 := Aside0.mk (HP1.out.below hb); clear hb))
    go_ret
    exact ⟨rfl, HP2.out.bel⟩
  have hq := well_other hw0
  obtain ⟨_, _, hsd⟩ := well_zero hw0
  rw [hw0] at HA
  have HQ := Aside0.mk (fun (W : World) (hT : TabW W) => well_c (otherP p) W hT)
  rw [hq] at HQ
  have HI := Aside0.mk (fun (W : World) (hT : TabW W) => in_c p.cells p.side W hT)
  have a0 : 0 ≤ p.side := by omega
  have a1 : p.side ≤ 1 := by omega
  have HQ : Aside0 (∀ (W : World), TabW W → Calls Tryz.prog 31 #[.agg #[.string p.cells, .int .i64 (1 - p.side), .int .i64 p.clock, .int .i64 p.full]] W fun e w' => e = .returned (.int .i64 (if inS p.cells p.side = true then 5 else 0)) ∧ Below W.heap.size W w') := HQ
  generalize hb1 : (1 - p.side : Int) = b at *
  clear h200 hmx hT hw0 hq hsd
  cases hi : inS p.cells p.side
  all_goals
    rw [hi] at HI HQ
    simp only [if_true, if_false, Bool.false_eq_true] at HQ
    clear hi
    go_enter Tryz.func8, Tryz.ntmps8
    go_upto_region 3 with (first
      | (go_at_call 31; refine (HA.out _ (HT.out _ HP0.out.bel)).mono ?_; rintro e w1 ⟨rfl, hb⟩; have HP1 := Aside0.mk (HP0.out.below hb); clear hb))
    obtain ⟨e0, e1, e2, e3, _⟩ := HP1.out
    have hl0 : w.heap.size < w1.heap.size := World.block_lt_of_cell? _ _ e0
    go_upto_region 5 with fail
    have HQ5 := Aside0.mk (WeAt.new w1 ⟨p.cells, b, p.clock, p.full⟩)
    have HP5 := Aside0.mk (HP1.out.keep hl0 (HQ5.out.bel))
    clear e0 e1 e2 e3 HP1
    generalize w1.alloc (.cells #[.string p.cells, .int .i64 b, .int .i64 p.clock, .int .i64 p.full] 33) = w5 at *
    obtain ⟨f0, f1, f2, f3, _⟩ := HQ5.out
    go_upto_region 6 with (first
      | (go_at_call 31; refine (HQ.out _ (HT.out _ HP5.out.bel)).mono ?_; rintro e w6 ⟨rfl, hb⟩; have HP6 := Aside0.mk (HP5.out.below hb); clear hb f0 f1 f2 f3 HP5 HQ5))
    obtain ⟨e0, e1, e2, e3, _⟩ := HP6.out
    go_wp2_with (first
      | (go_at_call 24; refine (HI.out _ (HT.out _ HP6.out.bel)).mono ?_; rintro e w7 ⟨rfl, hb⟩; have HP7 := Aside0.mk (HP6.out.below hb); clear hb)
      | (go_at_call 16; refine (HLV.out _ (HT.out _ HP7.out.bel)).mono ?_; rintro e w8 ⟨rfl, hb⟩; have HP8 := Aside0.mk (HP7.out.below hb); clear hb))
    go_ret
    exact ⟨rfl, HP8.out.bel⟩
end Go.Proofs.YtllbkppdkldmiaaGreatDoor.K
