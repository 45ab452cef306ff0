/- Walks and plain laws that several statements lean on, joined: no statement of the seat is proved here. -/
import Derived.Deep.Cut
import Derived.Deep.CutRange
import Derived.Test.YtllbkppdkldmiaaGreatDoorB15
import Derived.Test.YtllbkppdkldmiaaGreatDoorB14

/- A row of moves beside a position's box, and a position that is made; LegalClock, LegalBlock: the walks. -/
namespace Go.Proofs.YtllbkppdkldmiaaGreatDoor.K
open Go.RowKit Go.Lib Go.Proofs.YtllbkppdkldmiaaGreatDoorW.PrintWords Go.Proofs.YtllbkppdkldmiaaGreatDoor.Sp
set_option linter.unusedVariables false
set_option linter.unusedSimpArgs false
attribute [local go_sem] cel_get   -- for this text's walks alone
structure RowAt (w0 W : World) (p : Pos) (v : Value) (l : List Mv) : Prop where
  box : BoxP W w0.heap.size p
  m1 : MvAt W w0.heap.size v l
  bel : Below w0.heap.size w0 W
theorem RowAt.below {w0 W W' : World} {p : Pos} {v : Value} {l : List Mv} (h : RowAt w0 W p v l) (hb : Below W.heap.size W W') : RowAt w0 W' p v l := ⟨h.box.below hb, h.m1.below hb, below_go h.bel hb⟩
theorem RowAt.drew {w0 W : World} {p : Pos} {v : Value} {l : List Mv} (h : RowAt w0 W p v l) : RowAt w0 W.drew p v l := h.below (pw_below_drewN (Below.refl _ _) 1)
structure OqAt (w0 W : World) (p : Pos) (v : Value) (l : List Mv) (q : Pos) (qb : Nat) : Prop where
  row : RowAt w0 W p v l
  qx : BoxP W qb q
theorem OqAt.below {w0 W W' : World} {p q : Pos} {v : Value} {l : List Mv} {qb : Nat} (h : OqAt w0 W p v l q qb) (hb : Below W.heap.size W W') : OqAt w0 W' p v l q qb := ⟨h.row.below hb, h.qx.below hb⟩
theorem OqAt.mk1 {w0 W : World} {p : Pos} {v : Value} {l : List Mv} (h : RowAt w0 W p v l) (q : Pos) : OqAt w0 (W.alloc (.cells #[.string q.cells, .int .i64 q.side, .int .i64 q.clock, .int .i64 q.full] 33)) p v l q W.heap.size :=
  ⟨h.below (below_alloc (Below.refl _ _) _), BoxP.new W q⟩
/-- A new position's box behind a call. -/
theorem zq_new (W W' : World) (hb : Below (W.alloc (.cells #[.string { data := #[] }, .int .i64 0, .int .i64 0, .int .i64 0] 33)).heap.size (W.alloc (.cells #[.string { data := #[] }, .int .i64 0, .int .i64 0, .int .i64 0] 33)) W') :
    W'.cell? ⟨W.heap.size, 0, none⟩ = some (.string { data := #[] }) ∧ W'.cell? ⟨W.heap.size, 1, none⟩ = some (.int .i64 0) ∧ W'.cell? ⟨W.heap.size, 2, none⟩ = some (.int .i64 0) ∧ W'.cell? ⟨W.heap.size, 3, none⟩ = some (.int .i64 0) ∧ (∀ k, W'.frozen? ⟨W.heap.size, k, none⟩ = false) ∧ Below W.heap.size W W' := by
  have hl : W.heap.size < (W.alloc (.cells #[.string { data := #[] }, .int .i64 0, .int .i64 0, .int .i64 0] 33)).heap.size := by simp
  exact ⟨(hb.cell (p := ⟨W.heap.size, 0, none⟩) hl).trans (by simp [World.cell?_alloc_at]), (hb.cell (p := ⟨W.heap.size, 1, none⟩) hl).trans (by simp [World.cell?_alloc_at]), (hb.cell (p := ⟨W.heap.size, 2, none⟩) hl).trans (by simp [World.cell?_alloc_at]), (hb.cell (p := ⟨W.heap.size, 3, none⟩) hl).trans (by simp [World.cell?_alloc_at]), fun k => (hb.frozen (p := ⟨W.heap.size, k, none⟩) hl).trans (World.frozen?_alloc_at _ _ _ k rfl), (below_alloc (Below.refl W.heap.size W) _).trans (hb.mono (by simp))⟩
theorem OqAt.mk2 {w0 W0 W : World} {p : Pos} {v : Value} {l : List Mv} (h : RowAt w0 W0 p v l) (hb : Below W0.heap.size W0 W) (z0 : W.cell? ⟨W0.heap.size, 0, none⟩ = some (.string { data := #[] })) (z1 : W.cell? ⟨W0.heap.size, 1, none⟩ = some (.int .i64 0)) (z2 : W.cell? ⟨W0.heap.size, 2, none⟩ = some (.int .i64 0)) (z3 : W.cell? ⟨W0.heap.size, 3, none⟩ = some (.int .i64 0)) (q : Pos) :
    OqAt w0 ((((W.setCell ⟨W0.heap.size, 0, none⟩ (.string q.cells)).setCell ⟨W0.heap.size, 1, none⟩ (.int .i64 q.side)).setCell ⟨W0.heap.size, 2, none⟩ (.int .i64 q.clock)).setCell ⟨W0.heap.size, 3, none⟩ (.int .i64 q.full)) p v l q W0.heap.size :=
  ⟨h.below (Below.setCell (p := ⟨W0.heap.size, 3, none⟩) (Below.setCell (p := ⟨W0.heap.size, 2, none⟩) (Below.setCell (p := ⟨W0.heap.size, 1, none⟩) (Below.setCell (p := ⟨W0.heap.size, 0, none⟩) hb (Nat.le_refl _) _) (Nat.le_refl _) _) (Nat.le_refl _) _) (Nat.le_refl _) _), ⟨by simp [go_sem, z0, z1, z2, z3], by simp [go_sem, z0, z1, z2, z3], by simp [go_sem, z0, z1, z2, z3], by simp [go_sem, z0, z1, z2, z3]⟩⟩
/-- What is behind a move that may be made. -/
theorem legal_make {p : Pos} {m : Mv} (hm : m ∈ legalL p) : ∃ mb : ByteArray, makeP p (mviOf m) = (⟨mb, 1 - p.side, if cel p.cells m.2 = 46 then min (p.clock + 1) 120 else 0, if p.side = 1 then min (p.full + 1) 9999 else p.full⟩, if cel p.cells m.2 = 46 then 0 else cel p.cells m.2, 0) ∧ safeR mb p.side = true ∧ cel p.cells m.2 ≠ 0 ∧ wellS (makeP p (mviOf m)).1 = 0 := by
  obtain ⟨hw, hg, hs⟩ := legal_mem.1 hm
  have hck := well_check hw
  have hgd := safe_is_good hck hs
  obtain ⟨_, h1, h2, _⟩ := gath_mem hg
  have hbd := (argOk_yes (checkP_board hck)).1
  have hat : atS p.cells (m.2 : Int) = cel p.cells m.2 := by unfold atS; rw [if_pos ⟨hbd, by omega, by omega⟩]; rfl
  refine ⟨movedB p.cells m.1 m.2, ?_, ?_, ?_, ?_⟩
  · rw [make_ok hw hs, apply_good hck hgd]
    simp only
    rw [hat]
    rfl
  · rw [safe_good hck hgd] at hs
    exact hs
  · have h : ∀ x ∈ letters, x ≠ 0 := by decide
    exact h _ (board_cell hbd h2)
  · rw [make_ok hw hs]
    unfold safeS at hs
    simp only [Bool.and_eq_true, beq_iff_eq] at hs
    exact hs.2
set_option maxRecDepth 100000 in
set_option maxHeartbeats 4000000 in
theorem legalBlockLaw (w : World) (p : Pos) (hmx : p.cells.size ≤ maxLen) (hT : TabW w) : Calls Tryz.prog 15 #[posV p] w fun e w' => e = .returned (.bool true) ∧ Below w.heap.size w w' := by
  have HT := Aside0.mk (fun (W : World) (hb : Below w.heap.size w W) => hT.below hb)
  have HLV := Aside0.mk (fun (W : World) (hT : TabW W) => live8_c W hT)
  have hu := Tryz.underlying33
  have hu2 := Tryz.underlying49
  have HP0 := Aside0.mk (LmAt.new w p)
  by_cases h200 : p.cells.size > 200
  · have h1 : (200 : Int) < (p.cells.size : Int) := by omega
    clear h200 hmx hT
    go_enter Tryz.func15, Tryz.ntmps15
    go_wp2_with (go_at_call 38; refine (HLV.out _ (HT.out _ HP0.out.bel)).mono ?_; rintro e w1 ⟨rfl, hb⟩; have HW1 := Aside0.mk (HP0.out.below hb).bel; clear hb)
    go_ret
    exact ⟨rfl, HW1.out⟩
  have h1 : (p.cells.size : Int) ≤ 200 := by omega
  have HM := Aside0.mk (fun (W : World) (hT : TabW W) => lmoves_c p W hT)
  have HMK := Aside0.mk (fun (m : Mv) (W : World) (hT : TabW W) => make_c p (mviOf m) W hT)
  have HLM := Aside0.mk (fun m (h : m ∈ legalL p) => legal_make h)
  have HFC := Aside0.mk (fun (s : ByteArray) (W : World) (hT : TabW W) => fac_c s W hT)
  have HIN := Aside0.mk (fun (s : ByteArray) (W : World) (hT : TabW W) => in_c s p.side W hT)
  have HLL := Aside0.mk (legal_len2 p)
  clear h200 hmx hT
  generalize legalL p = l at *
  go_enter Tryz.func15, Tryz.ntmps15
  go_wp2_with fail
  refine (HM.out _ (HT.out _ HP0.out.bel)).mono ?_
  rintro e w2 ⟨v1, rfl, ho, hb⟩
  have HX := Aside0.mk (show RowAt w w2 p v1 l from ⟨(HP0.out.below hb).box, ho.reads.lower HP0.out.bel.size, (HP0.out.below hb).bel⟩)
  clear ho hb HP0
  obtain ⟨A1, cap1, rfl⟩ := HX.out.m1.form
  go_wp2_with fail
  go_loopg [4] l.length (fun gg s4 wr => ∃ i : Nat, s4 = .int .i64 (i : Int) ∧ i + gg = l.length ∧ Aside0 (RowAt w wr p (.slice A1 l.length cap1) l))
  case atStart => exact ⟨0, rfl, by omega, HX⟩
  case round =>
    clear HX
    obtain ⟨i, rfl, hi, HX⟩ := hrel
    cases gk with
    | zero =>
      have hn : ¬ ((i : Int) < (l.length : Int)) := by omega
      clear hi
      go_wp2_with (go_at_call 38; refine (HLV.out _ (HT.out _ HX.out.bel)).mono ?_; rintro e w5 ⟨rfl, hb⟩; have HW5 := Aside0.mk (below_go HX.out.bel hb); clear hb)
      go_ret
      exact ⟨rfl, HW5.out⟩
    | succ g =>
      have hn : (i : Int) < (l.length : Int) := by omega
      have hil : i < l.length := by omega
      have hib : (i : Int) ≤ 8100 := by have := HLL.out; omega
      have HI := Aside0.mk (show i + 1 + g = l.length by omega)
      obtain ⟨mb, hmk, hsf, _, _⟩ := HLM.out _ (List.getElem_mem hil)
      have HMK1 := Aside0.mk (HMK.out l[i])
      unfold MakeIs at HMK1
      rw [hmk] at HMK1
      unfold safeR at hsf
      simp only [Bool.and_eq_true, Bool.not_eq_true'] at hsf
      have HFC1 := Aside0.mk (HFC.out mb)
      have HIN1 := Aside0.mk (HIN.out mb)
      rw [hsf.1] at HFC1
      rw [hsf.2] at HIN1
      obtain ⟨g1, cap1', hA1, _, hg1, hx1⟩ := HX.out.m1.at (fun h => by rw [h] at hil; simp at hil)
      simp only [Value.slice.injEq, true_and] at hA1
      obtain ⟨rfl, rfl⟩ := hA1
      obtain ⟨x0, x1⟩ := hx1 i hil
      have HXC := Aside0.mk (fun W (h : MvAt W w.heap.size (.slice (some ⟨g1, 0, none⟩) l.length cap1) l) => h.cell i hil)
      clear hx1 hi hmk hsf
      generalize l[i] = m at *
      obtain ⟨ma, mb2⟩ := m
      simp only at x0 x1
      generalize (if cel p.cells mb2 = 46 then min (p.clock + 1) 120 else 0) = ck at *
      generalize (if p.side = 1 then min (p.full + 1) 9999 else p.full) = fl at *
      generalize (if cel p.cells mb2 = 46 then 0 else cel p.cells mb2) = c at *
      generalize hsd : (1 - p.side : Int) = sd at *
      clear hsd
      obtain ⟨e0, e1, e2, e3⟩ := HX.out.box
      clear hil
      go_wp2_with fail
      have HX1 := Aside0.mk HX.out.drew
      clear HX
      go_cut [5, 6, 7] from 15 to 44 (fun s5 s6 s7 wx => ∃ qb : Nat, s5 = .pointer (some ⟨qb, 0, none⟩) ∧ s6 = .int .u8 (c : Int) ∧ s7 = .int .i64 0 ∧ Aside0 (OqAt w wx p (.slice (some ⟨g1, 0, none⟩) l.length cap1) l ⟨mb, sd, ck, fl⟩ qb))
      case first =>
        go_region_held3 (fun W => W.cell? ⟨w.heap.size, 0, none⟩ = some (.string p.cells) ∧ W.cell? ⟨w.heap.size, 1, none⟩ = some (.int .i64 p.side) ∧ W.cell? ⟨w.heap.size, 2, none⟩ = some (.int .i64 p.clock) ∧ W.cell? ⟨w.heap.size, 3, none⟩ = some (.int .i64 p.full) ∧ W.cell? ⟨g1, i * 2, none⟩ = some (.int .i64 (ma : Int)) ∧ W.cell? ⟨g1, i * 2 + 1, none⟩ = some (.int .i64 (mb2 : Int))) (go_keep)
          (first
            | (go_at_call 46; (with_reducible refine (HMK1.out wr.drew (HT.out _ HX1.out.bel)).mono ?_); rintro e w6 ⟨rfl, hb⟩; have HX2 := Aside0.mk (HX1.out.below hb); clear HX1 hb e0 e1 e2 e3 x0 x1; obtain ⟨e0, e1, e2, e3⟩ := HX2.out.box; obtain ⟨x0, x1⟩ := HXC.out _ HX2.out.m1; have n0 : w6.heap.size ≠ w.heap.size := World.new_ne w6 _ e0; have n1 : w6.heap.size ≠ g1 := World.new_ne w6 _ x0)
            | (go_at_call 46; refine (HMK1.out _ (HT.out _ (by exact below_new HX1.out.bel _))).mono ?_; rintro e w6 ⟨rfl, hb⟩; have HZ := Aside0.mk (zq_new wr.drew w6 hb); have HX2 := Aside0.mk ((HX1.out.below (below_alloc (Below.refl _ _) _)).below hb); have n0 : wr.heap.size ≠ w.heap.size := World.new_ne wr _ e0; have n1 : wr.heap.size ≠ g1 := World.new_ne wr _ x0; clear hb e0 e1 e2 e3 x0 x1; obtain ⟨e0, e1, e2, e3⟩ := HX2.out.box; obtain ⟨x0, x1⟩ := HXC.out _ HX2.out.m1; have z0 : w6.cell? ⟨wr.heap.size, 0, none⟩ = some (.string { data := #[] }) := HZ.out.1; have z1 : w6.cell? ⟨wr.heap.size, 1, none⟩ = some (.int .i64 0) := HZ.out.2.1; have z2 : w6.cell? ⟨wr.heap.size, 2, none⟩ = some (.int .i64 0) := HZ.out.2.2.1; have z3 : w6.cell? ⟨wr.heap.size, 3, none⟩ = some (.int .i64 0) := HZ.out.2.2.2.1; have zf : ∀ k, w6.frozen? ⟨wr.heap.size, k, none⟩ = false := HZ.out.2.2.2.2.1))
        all_goals
          go_wp2_with fail
          go_meet
          first
          | exact ⟨_, rfl, rfl, rfl, ⟨OqAt.mk1 HX2.out ⟨mb, sd, ck, fl⟩⟩⟩
          | exact ⟨_, rfl, rfl, rfl, ⟨OqAt.mk2 HX1.out HZ.out.2.2.2.2.2 z0 z1 z2 z3 ⟨mb, sd, ck, fl⟩⟩⟩
      case rest =>
      obtain ⟨qb, rfl, rfl, rfl, HQ⟩ := hcut
      clear e0 e1 e2 e3 x0 x1 HX1 HMK1
      obtain ⟨e0, e1, e2, e3⟩ := HQ.out.row.box
      obtain ⟨f0, f1, f2, f3⟩ := HQ.out.qx
      go_wp2_with (first
        | (go_at_call 24; refine (HIN1.out _ (HT.out _ HQ.out.row.bel)).mono ?_; rintro e w7 ⟨rfl, hb⟩; have HQ2 := Aside0.mk (HQ.out.below hb); clear hb e0 e1 e2 e3 f0 f1 f2 f3; obtain ⟨f0, f1, f2, f3⟩ := HQ2.out.qx)
        | (go_at_call 22; refine (HFC1.out _ (HT.out _ HQ2.out.row.bel)).mono ?_; rintro e w8 ⟨rfl, hb⟩; have HQ3 := Aside0.mk (HQ2.out.below hb); clear hb f0 f1 f2 f3))
      go_roundg g
      case measure => omega
      case rel => exact ⟨i + 1, by go_num, by have := HI.out; omega, ⟨HQ3.out.row⟩⟩
end Go.Proofs.YtllbkppdkldmiaaGreatDoor.K

/- LegalClock: the walk. -/
namespace Go.Proofs.YtllbkppdkldmiaaGreatDoor.K
open Go.RowKit Go.Lib Go.Proofs.YtllbkppdkldmiaaGreatDoorW.PrintWords Go.Proofs.YtllbkppdkldmiaaGreatDoor.Sp
set_option linter.unusedVariables false
set_option linter.unusedSimpArgs false
attribute [local go_sem] cel_get   -- for this text's walks alone
set_option maxRecDepth 100000 in
set_option maxHeartbeats 4000000 in
theorem legalClockLaw (w : World) (p : Pos) (hmx : p.cells.size ≤ maxLen) (hT : TabW w) : Calls Tryz.prog 14 #[posV p] w fun e w' => e = .returned (.bool true) ∧ Below w.heap.size w w' := by
  have HT := Aside0.mk (fun (W : World) (hb : Below w.heap.size w W) => hT.below hb)
  have HLV := Aside0.mk (fun (W : World) (hT : TabW W) => live8_c W hT)
  have hu := Tryz.underlying33
  have hu2 := Tryz.underlying49
  have HP0 := Aside0.mk (LmAt.new w p)
  by_cases h200 : p.cells.size > 200
  · have h1 : (200 : Int) < (p.cells.size : Int) := by omega
    clear h200 hmx hT
    go_enter Tryz.func14, Tryz.ntmps14
    go_wp2_with (go_at_call 38; refine (HLV.out _ (HT.out _ HP0.out.bel)).mono ?_; rintro e w1 ⟨rfl, hb⟩; have HW1 := Aside0.mk (HP0.out.below hb).bel; clear hb)
    go_ret
    exact ⟨rfl, HW1.out⟩
  have h1 : (p.cells.size : Int) ≤ 200 := by omega
  have HM := Aside0.mk (fun (W : World) (hT : TabW W) => lmoves_c p W hT)
  have HMK := Aside0.mk (fun (m : Mv) (W : World) (hT : TabW W) => make_c p (mviOf m) W hT)
  have HLM := Aside0.mk (fun m (h : m ∈ legalL p) => legal_make h)
  have HAG := Aside0.mk (fun (m : Mv) (h : m ∈ legalL p) => argOk_yes (checkP_board (well_check (legal_mem.1 h).1)))
  have HLL := Aside0.mk (legal_len2 p)
  clear h200 hmx hT
  generalize legalL p = l at *
  go_enter Tryz.func14, Tryz.ntmps14
  go_wp2_with fail
  refine (HM.out _ (HT.out _ HP0.out.bel)).mono ?_
  rintro e w2 ⟨v1, rfl, ho, hb⟩
  have HX := Aside0.mk (show RowAt w w2 p v1 l from ⟨(HP0.out.below hb).box, ho.reads.lower HP0.out.bel.size, (HP0.out.below hb).bel⟩)
  clear ho hb HP0
  obtain ⟨A1, cap1, rfl⟩ := HX.out.m1.form
  go_wp2_with fail
  go_loopg [4] l.length (fun gg s4 wr => ∃ i : Nat, s4 = .int .i64 (i : Int) ∧ i + gg = l.length ∧ Aside0 (RowAt w wr p (.slice A1 l.length cap1) l))
  case atStart => exact ⟨0, rfl, by omega, HX⟩
  case round =>
    clear HX
    obtain ⟨i, rfl, hi, HX⟩ := hrel
    cases gk with
    | zero =>
      have hn : ¬ ((i : Int) < (l.length : Int)) := by omega
      clear hi
      go_wp2_with (go_at_call 38; refine (HLV.out _ (HT.out _ HX.out.bel)).mono ?_; rintro e w5 ⟨rfl, hb⟩; have HW5 := Aside0.mk (below_go HX.out.bel hb); clear hb)
      go_ret
      exact ⟨rfl, HW5.out⟩
    | succ g =>
      have hn : (i : Int) < (l.length : Int) := by omega
      have hil : i < l.length := by omega
      have hib : (i : Int) ≤ 8100 := by have := HLL.out; omega
      have HI := Aside0.mk (show i + 1 + g = l.length by omega)
      obtain ⟨mb, hmk, _, hy0, _⟩ := HLM.out _ (List.getElem_mem hil)
      obtain ⟨_, hsd0, q1, q2, q3, q4⟩ := HAG.out _ (List.getElem_mem hil)
      have HMK1 := Aside0.mk (HMK.out l[i])
      unfold MakeIs at HMK1
      rw [hmk] at HMK1
      obtain ⟨g1, cap1', hA1, _, hg1, hx1⟩ := HX.out.m1.at (fun h => by rw [h] at hil; simp at hil)
      simp only [Value.slice.injEq, true_and] at hA1
      obtain ⟨rfl, rfl⟩ := hA1
      obtain ⟨x0, x1⟩ := hx1 i hil
      have HXC := Aside0.mk (fun W (h : MvAt W w.heap.size (.slice (some ⟨g1, 0, none⟩) l.length cap1) l) => h.cell i hil)
      clear hx1 hi hmk
      generalize l[i] = m at *
      obtain ⟨ma, mb2⟩ := m
      simp only at x0 x1
      simp only at hy0
      have HY := Aside0.mk (eqK (cel p.cells mb2) 0)
      generalize cel p.cells mb2 = y at *
      have s0 : 0 ≤ p.side := by omega
      have s1 : p.side ≤ 1 := by omega
      have HFL := Aside0.mk (show p.full ≤ (if p.side = 1 then min (p.full + 1) 9999 else p.full) ∧ (if p.side = 1 then min (p.full + 1) 9999 else p.full) ≤ p.full + p.side by split <;> omega)
      have HCK := Aside0.mk (And.intro hy0 (show (if y = 46 then min (p.clock + 1) 120 else (0 : Int)) = (if y = 46 then min (p.clock + 1) 120 else 0) from rfl))
      have HC2 := Aside0.mk (show ((if y = 46 then 0 else y) : Nat) = (if y = 46 then 0 else y) from rfl)
      generalize hck : (if y = 46 then min (p.clock + 1) 120 else (0 : Int)) = ck at *
      generalize (if p.side = 1 then min (p.full + 1) 9999 else p.full) = fl at *
      generalize hcc : (if y = 46 then 0 else y) = c at *
      have HCC := Aside0.mk (And.intro hck hcc)
      clear hck hcc HCK HC2
      have HY0 := Aside0.mk hy0
      clear hy0 hsd0
      obtain ⟨e0, e1, e2, e3⟩ := HX.out.box
      clear hil
      go_wp2_with fail
      have HX1 := Aside0.mk HX.out.drew
      clear HX
      go_cut [5, 6, 7] from 16 to 70 (fun s5 s6 s7 wx => ∃ qb : Nat, s5 = .pointer (some ⟨qb, 0, none⟩) ∧ s6 = .int .u8 (c : Int) ∧ s7 = .int .i64 0 ∧ Aside0 (OqAt w wx p (.slice (some ⟨g1, 0, none⟩) l.length cap1) l ⟨mb, 1 - p.side, ck, fl⟩ qb))
      case first =>
        go_region_held3 (fun W => W.cell? ⟨w.heap.size, 0, none⟩ = some (.string p.cells) ∧ W.cell? ⟨w.heap.size, 1, none⟩ = some (.int .i64 p.side) ∧ W.cell? ⟨w.heap.size, 2, none⟩ = some (.int .i64 p.clock) ∧ W.cell? ⟨w.heap.size, 3, none⟩ = some (.int .i64 p.full) ∧ W.cell? ⟨g1, i * 2, none⟩ = some (.int .i64 (ma : Int)) ∧ W.cell? ⟨g1, i * 2 + 1, none⟩ = some (.int .i64 (mb2 : Int))) (go_keep)
          (first
            | (go_at_call 46; (with_reducible refine (HMK1.out wr.drew (HT.out _ HX1.out.bel)).mono ?_); rintro e w6 ⟨rfl, hb⟩; have HX2 := Aside0.mk (HX1.out.below hb); clear HX1 hb e0 e1 e2 e3 x0 x1; obtain ⟨e0, e1, e2, e3⟩ := HX2.out.box; obtain ⟨x0, x1⟩ := HXC.out _ HX2.out.m1; have n0 : w6.heap.size ≠ w.heap.size := World.new_ne w6 _ e0; have n1 : w6.heap.size ≠ g1 := World.new_ne w6 _ x0)
            | (go_at_call 46; refine (HMK1.out _ (HT.out _ (by exact below_new HX1.out.bel _))).mono ?_; rintro e w6 ⟨rfl, hb⟩; have HZ := Aside0.mk (zq_new wr.drew w6 hb); have HX2 := Aside0.mk ((HX1.out.below (below_alloc (Below.refl _ _) _)).below hb); have n0 : wr.heap.size ≠ w.heap.size := World.new_ne wr _ e0; have n1 : wr.heap.size ≠ g1 := World.new_ne wr _ x0; clear hb e0 e1 e2 e3 x0 x1; obtain ⟨e0, e1, e2, e3⟩ := HX2.out.box; obtain ⟨x0, x1⟩ := HXC.out _ HX2.out.m1; have z0 : w6.cell? ⟨wr.heap.size, 0, none⟩ = some (.string { data := #[] }) := HZ.out.1; have z1 : w6.cell? ⟨wr.heap.size, 1, none⟩ = some (.int .i64 0) := HZ.out.2.1; have z2 : w6.cell? ⟨wr.heap.size, 2, none⟩ = some (.int .i64 0) := HZ.out.2.2.1; have z3 : w6.cell? ⟨wr.heap.size, 3, none⟩ = some (.int .i64 0) := HZ.out.2.2.2.1; have zf : ∀ k, w6.frozen? ⟨wr.heap.size, k, none⟩ = false := HZ.out.2.2.2.2.1))
        all_goals
          go_wp2_with fail
          go_meet
          first
          | exact ⟨_, rfl, rfl, rfl, ⟨OqAt.mk1 HX2.out ⟨mb, 1 - p.side, ck, fl⟩⟩⟩
          | exact ⟨_, rfl, rfl, rfl, ⟨OqAt.mk2 HX1.out HZ.out.2.2.2.2.2 z0 z1 z2 z3 ⟨mb, 1 - p.side, ck, fl⟩⟩⟩
      case rest =>
      obtain ⟨qb, rfl, rfl, rfl, HQ⟩ := hcut
      clear e0 e1 e2 e3 x0 x1 HX1 HMK1
      obtain ⟨e0, e1, e2, e3⟩ := HQ.out.row.box
      obtain ⟨f0, f1, f2, f3⟩ := HQ.out.qx
      obtain ⟨l1, l2⟩ := HFL.out
      by_cases h46 : y = 46
      · have hc0 : c = 0 := by have := HCC.out.2; rw [if_pos h46] at this; exact this.symm
        have hk0 : ck = min (p.clock + 1) 120 := by have := HCC.out.1; rw [if_pos h46] at this; exact this.symm
        subst hc0 hk0
        clear HFL HCC HY HY0 h46
        go_wp2_with fail
        go_roundg g
        case measure => omega
        case rel => exact ⟨i + 1, by go_num, by have := HI.out; omega, ⟨HQ.out.row⟩⟩
      · have hc0 : ((c : Int) != 0) = true := by have := HCC.out.2; rw [if_neg h46] at this; have := HY0.out; rw [bne_iff_ne]; omega
        have hk0 : ck = 0 := by have := HCC.out.1; rw [if_neg h46] at this; exact this.symm
        subst hk0
        clear HFL HCC HY HY0 h46
        go_wp2_with fail
        go_roundg g
        case measure => omega
        case rel => exact ⟨i + 1, by go_num, by have := HI.out; omega, ⟨HQ.out.row⟩⟩
end Go.Proofs.YtllbkppdkldmiaaGreatDoor.K
