/- Walks and plain laws that several statements lean on, joined: no statement of the seat is proved here. -/
import Derived.StillTailTactics
import Derived.Deep.AppendLies
import Derived.Test.YtgmlojocafepiaaGreatDoorB10
import Derived.Test.YtgmlojocafepiaaGreatDoorB6
import Derived.Test.YtgmlojocafepiaaGreatDoorB5
import Derived.Test.YtgmlojocafepiaaGreatDoorB9
import Derived.Test.YtgmlojocafepiaaGreatDoorB8

/- Walk: a new game. -/
namespace Go.Proofs.YtgmlojocafepiaaGreatDoor.K
open Go.RowKit Go.Lib Go.Proofs.YtgmlojocafepiaaGreatDoorW.PrintWords Go.Proofs.YtgmlojocafepiaaGreatDoor.Sp
set_option linter.unusedVariables false
set_option linter.unusedSimpArgs false
abbrev newIn (W w' : World) : Nat → Prop := fun k => W.heap.size ≤ k ∧ k < w'.heap.size
def NewIs (p : Pos) (W : World) (e : Ending) (w' : World) : Prop :=
  if wellS p ≠ 0 then e = .returned (.tuple #[.pointer none, .int .i64 (wellS p)]) ∧ Below W.heap.size W w'
  else ∃ gb pb, e = .returned (.tuple #[.pointer (some ⟨gb, 0, none⟩), .int .i64 0]) ∧ GmX w' (newIn W w') gb pb (.slice none 0 0) p [] ∧ Below W.heap.size W w'
structure NwAt (W w : World) (p : Pos) (gb pb a b c d : Nat) : Prop where
  gm : GmZ w (fun k => W.heap.size < k) gb pb (.slice none 0 0) p a b c d []
  bx : BoxP w W.heap.size p
  bel : Below W.heap.size W w
section
variable {W w w' : World} {p : Pos} {gb pb a b c d : Nat}
theorem NwAt.below (h : NwAt W w p gb pb a b c d) (hb : Below w.heap.size w w') : NwAt W w' p gb pb a b c d := ⟨h.gm.below hb, h.bx.below hb, below_go h.bel hb⟩
theorem NwAt.drew (h : NwAt W w p gb pb a b c d) : NwAt W w.drew p gb pb a b c d := h.below (pw_below_drewN (Below.refl _ _) 1)
theorem NwAt.new (hx : BoxP w W.heap.size p) (hb : Below W.heap.size W w) : NwAt W ((w.alloc (.cells #[.slice none 0 0] 84)).alloc (.cells #[.pointer (some ⟨w.heap.size, 0, none⟩), .string p.cells, .int .i64 p.side, .int .i64 p.clock, .int .i64 p.full, .int .u64 0, .int .u64 0, .int .u64 0, .int .u64 0] 90)) p (w.heap.size + 1) w.heap.size 0 0 0 0 := by
  have h0 : W.heap.size < w.heap.size := World.block_lt_of_cell? w ⟨W.heap.size, 0, none⟩ hx.c0
  have hb1 := below_alloc (Below.refl w.heap.size w) (.cells #[.slice none 0 0] 84)
  have hs : (w.alloc (.cells #[.slice none 0 0] 84)).heap.size = w.heap.size + 1 := by simp
  have hb2 := below_alloc hb1 (.cells #[.pointer (some ⟨w.heap.size, 0, none⟩), .string p.cells, .int .i64 p.side, .int .i64 p.clock, .int .i64 p.full, .int .u64 0, .int .u64 0, .int .u64 0, .int .u64 0] 90)
  refine ⟨⟨?_, ?_, ?_, ?_, ?_, ?_, ?_, ?_, ?_, fun k => World.frozen?_alloc_at _ _ _ k hs.symm, ?_, fun k => (World.frozen?_alloc_past _ _ k (by rw [hs]; omega)).trans (World.frozen?_alloc_at _ _ _ k rfl), World.ownsRow_nil _ _ _ _, by omega, fun k hk => by simp [Value.ownBlock] at hk, by omega, h0⟩, hx.below hb2, below_go hb hb2⟩
  all_goals first
    | (rw [World.cell?_alloc_at _ _ _ _ hs.symm]; rfl)
    | (rw [World.cell?_alloc_past _ _ _ (by rw [hs]; omega), World.cell?_alloc_at _ _ _ _ rfl]; rfl)
theorem NwAt.setRed (h : NwAt W w p gb pb a b c d) (x y : Nat) : NwAt W ((w.setCell ⟨gb, 5, none⟩ (.int .u64 (x : Int))).setCell ⟨gb, 6, none⟩ (.int .u64 (y : Int))) p gb pb x y c d := by
  have hsg := h.gm.sg
  have hk : Ken (fun k => k = gb) w ((w.setCell ⟨gb, 5, none⟩ (.int .u64 (x : Int))).setCell ⟨gb, 6, none⟩ (.int .u64 (y : Int))) :=
    ((Ken.refl (fun k => k = gb) w).setCell (p := ⟨gb, 5, none⟩) (.inl rfl) _).setCell (p := ⟨gb, 6, none⟩) (.inl rfl) _
  have hn : ¬ (W.heap.size = gb) := by omega
  exact ⟨h.gm.setRed x y, ⟨hk.cell h.bx.c0 hn, hk.cell h.bx.c1 hn, hk.cell h.bx.c2 hn, hk.cell h.bx.c3 hn⟩, Below.setCell (p := ⟨gb, 6, none⟩) (Below.setCell (p := ⟨gb, 5, none⟩) h.bel (Nat.le_of_lt hsg) _) (Nat.le_of_lt hsg) _⟩
theorem NwAt.setBlack (h : NwAt W w p gb pb a b c d) (x y : Nat) : NwAt W ((w.setCell ⟨gb, 7, none⟩ (.int .u64 (x : Int))).setCell ⟨gb, 8, none⟩ (.int .u64 (y : Int))) p gb pb a b x y := by
  have hsg := h.gm.sg
  have hk : Ken (fun k => k = gb) w ((w.setCell ⟨gb, 7, none⟩ (.int .u64 (x : Int))).setCell ⟨gb, 8, none⟩ (.int .u64 (y : Int))) :=
    ((Ken.refl (fun k => k = gb) w).setCell (p := ⟨gb, 7, none⟩) (.inl rfl) _).setCell (p := ⟨gb, 8, none⟩) (.inl rfl) _
  have hn : ¬ (W.heap.size = gb) := by omega
  exact ⟨h.gm.setBlack x y, ⟨hk.cell h.bx.c0 hn, hk.cell h.bx.c1 hn, hk.cell h.bx.c2 hn, hk.cell h.bx.c3 hn⟩, Below.setCell (p := ⟨gb, 8, none⟩) (Below.setCell (p := ⟨gb, 7, none⟩) h.bel (Nat.le_of_lt hsg) _) (Nat.le_of_lt hsg) _⟩
end
theorem pieces_lt (s : ByteArray) (a : Int) : (∀ x ∈ piecesS s a, x < 90) ∧ (piecesS s a).length ≤ 1000000 := by
  unfold piecesS
  split
  · refine ⟨fun x hx => ?_, Nat.le_trans (List.length_filter_le _ _) (by simp)⟩
    simpa using (List.mem_filter.1 hx).1
  · exact ⟨fun x hx => by simp at hx, by simp⟩
theorem of_pieces {s : ByteArray} (hs : isBoard s = true) (a : Int) (ha : 0 ≤ a) (B : Nat) (v : Value) (w : World) (h : IntsAt w B v (piecesS s a)) :
    Calls Tryz.prog 63 #[v] w fun e w' => e = .returned (setV (loB (sqF s a)) (hiB (sqF s a))) ∧ Below w.heap.size w w' := by
  have h1 := of_c (piecesS s a) (pieces_lt s a).1 (pieces_lt s a).2 B v w h
  rw [fL_pieces hs a ha] at h1
  exact h1
set_option maxRecDepth 100000 in
set_option maxHeartbeats 4000000 in
theorem gnew_c (p : Pos) (W : World) (hT : TabW W) : Calls Tryz.prog 21 #[posV p] W (NewIs p W) := by
  have hu := Tryz.underlying23
  have HT := Aside0.mk (fun (W' : World) (hb : Below W.heap.size W W') => hT.below hb)
  have HWL := Aside0.mk (fun (W' : World) (hT : TabW W') => well_c p W' hT)
  have HB0 := Aside0.mk (BoxP.new W p)
  have HL0 := Aside0.mk (below_alloc (Below.refl W.heap.size W) (.cells #[.string p.cells, .int .i64 p.side, .int .i64 p.clock, .int .i64 p.full] 23))
  by_cases hw : wellS p = 0
  case neg =>
    have HR := Aside0.mk (fun (w' : World) (hb : Below W.heap.size W w') => show NewIs p W (.returned (.tuple #[.pointer none, .int .i64 (wellS p)])) w' by unfold NewIs; rw [if_pos hw]; exact ⟨rfl, hb⟩)
    generalize hx : wellS p = x at *
    have hn : (x != 0) = true := by simpa using hw
    clear hx hT
    go_enter Tryz.func21, Tryz.ntmps21
    go_upto_region 1 with fail
    generalize W.alloc (.cells #[.string p.cells, .int .i64 p.side, .int .i64 p.clock, .int .i64 p.full] 23) = W1 at *
    obtain ⟨c0, c1, c2, c3⟩ := HB0.out
    go_wp2_with (go_at_call 12; refine (HWL.out _ (HT.out _ HL0.out)).mono ?_; rintro e w1 ⟨rfl, hb⟩; have HB1 := Aside0.mk (below_go HL0.out hb); clear hb)
    refine bodyPost_ret (by simp [results, Tryz.results21, go_sem]; try rfl) rfl ?_
    exact HR.out _ HB1.out
  case pos =>
  have hbd : isBoard p.cells = true := (argOk_yes (checkP_board (well_check hw))).1
  have HR := Aside0.mk (fun (w' : World) (gb pb : Nat) (hg : NwAt W w' p gb pb (loB (sqF p.cells 0)) (hiB (sqF p.cells 0)) (loB (sqF p.cells 1)) (hiB (sqF p.cells 1))) => show NewIs p W (.returned (.tuple #[.pointer (some ⟨gb, 0, none⟩), .int .i64 0])) w' by unfold NewIs; rw [if_neg (by simpa using hw)]; exact ⟨gb, pb, rfl, hg.gm.to (fun k h1 h2 => ⟨Nat.le_of_lt h1, h2⟩), hg.bel⟩)
  rw [hw] at HWL
  have HP0 := Aside0.mk (fun (W' : World) (hT : TabW W') => pieces_c p.cells 0 W' hT)
  have HP1 := Aside0.mk (fun (W' : World) (hT : TabW W') => pieces_c p.cells 1 W' hT)
  have HO0 := Aside0.mk (fun (B : Nat) (v : Value) (w : World) (h : IntsAt w B v (piecesS p.cells 0)) => of_pieces hbd 0 (by omega) B v w h)
  have HO1 := Aside0.mk (fun (B : Nat) (v : Value) (w : World) (h : IntsAt w B v (piecesS p.cells 1)) => of_pieces hbd 1 (by omega) B v w h)
  clear hw hbd hT
  generalize loB (sqF p.cells 0) = A0 at *
  generalize hiB (sqF p.cells 0) = B0 at *
  generalize loB (sqF p.cells 1) = C0 at *
  generalize hiB (sqF p.cells 1) = D0 at *
  go_enter Tryz.func21, Tryz.ntmps21
  go_upto_region 1 with fail
  generalize W.alloc (.cells #[.string p.cells, .int .i64 p.side, .int .i64 p.clock, .int .i64 p.full] 23) = W1 at *
  obtain ⟨c0, c1, c2, c3⟩ := HB0.out
  go_upto_region 5 with (go_at_call 12; refine (HWL.out _ (HT.out _ HL0.out)).mono ?_; rintro e w1 ⟨rfl, hb⟩; have HB1 := Aside0.mk (HB0.out.below hb); have HL1 := Aside0.mk (below_go HL0.out hb); clear hb c0 c1 c2 c3; obtain ⟨c0, c1, c2, c3⟩ := HB1.out; have hlt : W.heap.size < w1.heap.size := World.block_lt_of_cell? _ _ c0)
  have HX := Aside0.mk (NwAt.new HB1.out HL1.out)
  clear c0 c1 c2 c3 HB1 HL1 HB0 HL0 hlt
  generalize (w1.alloc (.cells #[.slice none 0 0] 84)).alloc (.cells #[.pointer (some ⟨w1.heap.size, 0, none⟩), .string p.cells, .int .i64 p.side, .int .i64 p.clock, .int .i64 p.full, .int .u64 0, .int .u64 0, .int .u64 0, .int .u64 0] 90) = W2 at *
  generalize w1.heap.size + 1 = gb at *
  generalize w1.heap.size = pb at *
  go_wp2_with fail
  go_loopg [17] 2 (fun gg s17 wr => ∃ i a b c d : Nat, s17 = .int .i64 (i : Int) ∧ i + gg = 2 ∧ Aside0 (NwAt W wr p gb pb a b c d) ∧ Aside0 ((1 ≤ i → a = A0 ∧ b = B0) ∧ (2 ≤ i → c = C0 ∧ d = D0)))
  case atStart => exact ⟨0, 0, 0, 0, 0, rfl, by omega, HX, ⟨⟨fun h => by omega, fun h => by omega⟩⟩⟩
  case round =>
    clear HX
    obtain ⟨i, a, b, c, d, rfl, hi, HX, HI⟩ := hrel
    cases gk with
    | zero =>
      obtain rfl : i = 2 := by omega
      obtain ⟨⟨h1, h2⟩⟩ := HI
      obtain ⟨rfl, rfl⟩ := h1 (by omega)
      obtain ⟨rfl, rfl⟩ := h2 (by omega)
      clear h1 h2 hi
      go_wp2_with fail
      refine bodyPost_ret (by simp [results, Tryz.results21, go_sem]; try rfl) rfl ?_
      exact HR.out _ _ _ HX.out
    | succ g =>
      rcases (show i = 0 ∧ g = 1 ∨ i = 1 ∧ g = 0 by omega) with ⟨rfl, rfl⟩ | ⟨rfl, rfl⟩
      · clear hi
        obtain ⟨g0, g1, g2, g3, g4, g5, g6, g7, g8, gf, _, _, _, _, _, hsg, _⟩ := HX.out.gm
        obtain ⟨c0, c1, c2, c3⟩ := HX.out.bx
        have n1 : gb ≠ W.heap.size := by omega
        have n2 : W.heap.size ≠ gb := by omega
        go_wp2_with fail
        have HX1 := Aside0.mk HX.out.drew
        clear HX
        go_region_held3 (fun V => V.cell? ⟨W.heap.size, 0, none⟩ = some (.string p.cells)) (go_keep)
          (first
            | (go_at_call 64; (with_reducible refine (HP0.out _ (HT.out _ HX1.out.bel)).mono ?_); rintro e w6 ⟨v, rfl, ho, hb⟩; have HX6 := Aside0.mk (HX1.out.below hb); have HV := Aside0.mk (ints_of ho); clear HX1 hb ho g0 g1 g2 g3 g4 g5 g6 g7 g8 gf c0 c1 c2 c3; obtain ⟨g0, g1, g2, g3, g4, g5, g6, g7, g8, gf, _, _, _, _, _, _, _⟩ := HX6.out.gm; obtain ⟨c0, c1, c2, c3⟩ := HX6.out.bx)
            | (go_at_call 63; (with_reducible refine (HO0.out _ _ _ HV.out).mono ?_); rintro e w7 ⟨rfl, hb⟩; have HX7 := Aside0.mk (HX6.out.below hb); clear HX6 HV hb g0 g1 g2 g3 g4 g5 g6 g7 g8 gf c0 c1 c2 c3; obtain ⟨g0, g1, g2, g3, g4, g5, g6, g7, g8, gf, _, _, _, _, _, _, _⟩ := HX7.out.gm; obtain ⟨c0, c1, c2, c3⟩ := HX7.out.bx))
        all_goals
          go_wp2_with fail
          go_roundg 1
          case measure => omega
          case rel => exact ⟨1, _, _, _, _, by go_num, by omega, ⟨HX7.out.setRed A0 B0⟩, ⟨⟨fun _ => ⟨rfl, rfl⟩, fun h => by omega⟩⟩⟩
      · clear hi
        obtain ⟨g0, g1, g2, g3, g4, g5, g6, g7, g8, gf, _, _, _, _, _, hsg, _⟩ := HX.out.gm
        obtain ⟨c0, c1, c2, c3⟩ := HX.out.bx
        have n1 : gb ≠ W.heap.size := by omega
        have n2 : W.heap.size ≠ gb := by omega
        go_wp2_with fail
        have HX1 := Aside0.mk HX.out.drew
        clear HX
        go_region_held3 (fun V => V.cell? ⟨W.heap.size, 0, none⟩ = some (.string p.cells)) (go_keep)
          (first
            | (go_at_call 64; (with_reducible refine (HP1.out _ (HT.out _ HX1.out.bel)).mono ?_); rintro e w6 ⟨v, rfl, ho, hb⟩; have HX6 := Aside0.mk (HX1.out.below hb); have HV := Aside0.mk (ints_of ho); clear HX1 hb ho g0 g1 g2 g3 g4 g5 g6 g7 g8 gf c0 c1 c2 c3; obtain ⟨g0, g1, g2, g3, g4, g5, g6, g7, g8, gf, _, _, _, _, _, _, _⟩ := HX6.out.gm; obtain ⟨c0, c1, c2, c3⟩ := HX6.out.bx)
            | (go_at_call 63; (with_reducible refine (HO1.out _ _ _ HV.out).mono ?_); rintro e w7 ⟨rfl, hb⟩; have HX7 := Aside0.mk (HX6.out.below hb); clear HX6 HV hb g0 g1 g2 g3 g4 g5 g6 g7 g8 gf c0 c1 c2 c3; obtain ⟨g0, g1, g2, g3, g4, g5, g6, g7, g8, gf, _, _, _, _, _, _, _⟩ := HX7.out.gm; obtain ⟨c0, c1, c2, c3⟩ := HX7.out.bx))
        all_goals
          go_wp2_with fail
          go_roundg 0
          case measure => omega
          case rel => exact ⟨2, _, _, _, _, by go_num, by omega, ⟨HX7.out.setBlack C0 D0⟩, ⟨⟨fun _ => HI.out.1 (by omega), fun _ => ⟨rfl, rfl⟩⟩⟩⟩
end Go.Proofs.YtgmlojocafepiaaGreatDoor.K

/- Walk: a game's Unmake. -/
namespace Go.Proofs.YtgmlojocafepiaaGreatDoor.K
open Go.RowKit Go.Lib Go.Proofs.YtgmlojocafepiaaGreatDoorW.PrintWords Go.Proofs.YtgmlojocafepiaaGreatDoor.Sp
set_option linter.unusedVariables false
set_option linter.unusedSimpArgs false
theorem GmZ.ken2 {W W' : World} {S T : Nat → Prop} {gb pb : Nat} {sv : Value} {now : Pos} {a b c d : Nat} {us : List Und} (h : GmZ W S gb pb sv now a b c d us) (hk : Ken T W W') (n1 : ¬ T gb) (n2 : ¬ T pb) (n3 : ∀ k, sv.ownBlock = some k → ¬ T k) : GmZ W' S gb pb sv now a b c d us :=
  ⟨hk.cell h.g0 n1, hk.cell h.g1 n1, hk.cell h.g2 n1, hk.cell h.g3 n1, hk.cell h.g4 n1, hk.cell h.g5 n1, hk.cell h.g6 n1, hk.cell h.g7 n1, hk.cell h.g8 n1, fun k => (hk.free h.lt.1 n1).trans (h.gf k), hk.cell h.p0 n2, fun k => (hk.free h.lt.2 n2).trans (h.pf k), hk.row h.row n3, h.ne, h.far, h.sg, h.sp⟩
/-- While a move is taken back: the game, the undo's box. -/
structure UnAt (W w : World) (S : Nat → Prop) (gb pb : Nat) (sv : Value) (q : Pos) (a b c d : Nat) (us : List Und) (u : Und) (ub : Nat) : Prop where
  gm : GmZ w S gb pb sv q a b c d us
  u0 : w.cell? ⟨ub, 0, none⟩ = some (.int .i64 (u.mv.1 : Int))
  u1 : w.cell? ⟨ub, 1, none⟩ = some (.int .i64 (u.mv.2 : Int))
  u2 : w.cell? ⟨ub, 2, none⟩ = some (.int .u8 (u.tk : Int))
  u3 : w.cell? ⟨ub, 3, none⟩ = some (.int .i64 u.ck)
  u4 : w.cell? ⟨ub, 4, none⟩ = some (.int .i64 u.fl)
  ken : Ken S W w
  uge : W.heap.size ≤ ub
  low : gb < W.heap.size ∧ pb < W.heap.size
  old : ∀ k, sv.ownBlock = some k → k < W.heap.size
section
variable {W w w' : World} {S : Nat → Prop} {gb pb ub yb : Nat} {sv : Value} {q : Pos} {a b c d : Nat} {us : List Und} {u : Und} {xs : List Int}
theorem UnAt.keep {R : Nat → Prop} {sv2 : Value} {q2 : Pos} {a2 b2 c2 d2 : Nat} {us2 : List Und} (h : UnAt W w S gb pb sv q a b c d us u ub) (hk : Ken R w w') (hr : ∀ k, R k → k < W.heap.size ∨ ub < k) (hrs : ∀ k, R k → S k ∨ W.heap.size ≤ k) (hg : GmZ w' S gb pb sv2 q2 a2 b2 c2 d2 us2) (ho : ∀ k, sv2.ownBlock = some k → k < W.heap.size) : UnAt W w' S gb pb sv2 q2 a2 b2 c2 d2 us2 u ub := by
  have hu := h.uge
  have n1 : ¬ R ub := fun hh => by have := hr _ hh; omega
  exact ⟨hg, hk.cell h.u0 n1, hk.cell h.u1 n1, hk.cell h.u2 n1, hk.cell h.u3 n1, hk.cell h.u4 n1, h.ken.trans hk hrs, h.uge, h.low, ho⟩
theorem UnAt.below (h : UnAt W w S gb pb sv q a b c d us u ub) (hb : Below w.heap.size w w') : UnAt W w' S gb pb sv q a b c d us u ub :=
  h.keep (R := fun _ => False) (Ken.of_below hb _) (fun _ hk => hk.elim) (fun _ hk => hk.elim) (h.gm.below hb) h.old
theorem UnAt.drew (h : UnAt W w S gb pb sv q a b c d us u ub) : UnAt W w.drew S gb pb sv q a b c d us u ub := h.below (pw_below_drewN (Below.refl _ _) 1)
theorem UnAt.new (h : GmZ W S gb pb sv q a b c d us) (ma mb tk : Nat) (ck fl : Int) : UnAt W (W.alloc (.cells #[.int .i64 (ma : Int), .int .i64 (mb : Int), .int .u8 (tk : Int), .int .i64 ck, .int .i64 fl] 93)) S gb pb sv q a b c d us ⟨(ma, mb), tk, ck, fl⟩ W.heap.size := by
  have hb := below_alloc (Below.refl W.heap.size W) (.cells #[.int .i64 (ma : Int), .int .i64 (mb : Int), .int .u8 (tk : Int), .int .i64 ck, .int .i64 fl] 93)
  exact ⟨h.below hb, by simp [World.cell?_alloc_at], by simp [World.cell?_alloc_at], by simp [World.cell?_alloc_at], by simp [World.cell?_alloc_at], by simp [World.cell?_alloc_at], Ken.of_below hb S, Nat.le_refl _, h.lt, own_lt h.row⟩
theorem UnAt.stack {n cap bb : Nat} {us2 : List Und} (h : UnAt W w S gb pb (.slice (some ⟨bb, 0, none⟩) (us2 ++ [u]).length cap) q a b c d (us2 ++ [u]) u ub) (hn : us2.length = n) : UnAt W (w.setCell ⟨pb, 0, none⟩ (.slice (some ⟨bb, 0, none⟩) n cap)) S gb pb (.slice (some ⟨bb, 0, none⟩) n cap) q a b c d us2 u ub := by
  subst hn
  have hr := und_pop h.gm.row us2.length (by simp)
  rw [show (us2 ++ [u]).take us2.length = us2 by simp] at hr
  exact h.keep (R := fun k => k = pb) ((Ken.refl (fun k => k = pb) w).setCell (p := ⟨pb, 0, none⟩) (.inl rfl) _) (fun k hk => by rw [hk]; exact .inl h.low.2) (fun k hk => by rw [hk]; exact .inl h.gm.sp) (h.gm.setStack _ us2 hr h.gm.far) h.old
/-- .. and the board's bytes. -/
structure UbAt (W w : World) (S : Nat → Prop) (gb pb : Nat) (sv : Value) (q : Pos) (a b c d : Nat) (us : List Und) (u : Und) (ub yb : Nat) (xs : List Int) : Prop where
  un : UnAt W w S gb pb sv q a b c d us u ub
  bt : BytesAt w yb xs
  ylt : ub < yb ∧ yb < w.heap.size
theorem UbAt.new (h : UnAt W w S gb pb sv q a b c d us u ub) (s : ByteArray) : UbAt W (Lib.bytesWorld w 5 s) S gb pb sv q a b c d us u ub w.heap.size (bytesOf s) :=
  ⟨h.below (bytes_below (Below.refl _ _) (Nat.le_refl _) 5 s), bytes_at_new w 5 s, World.block_lt_of_cell? w ⟨ub, 0, none⟩ h.u0, by rw [Lib.bytesWorld_size]; omega⟩
theorem UbAt.below (h : UbAt W w S gb pb sv q a b c d us u ub yb xs) (hb : Below w.heap.size w w') : UbAt W w' S gb pb sv q a b c d us u ub yb xs :=
  ⟨h.un.below hb, h.bt.below h.ylt.2 hb, h.ylt.1, Nat.lt_of_lt_of_le h.ylt.2 hb.size⟩
theorem UbAt.drew (h : UbAt W w S gb pb sv q a b c d us u ub yb xs) : UbAt W w.drew S gb pb sv q a b c d us u ub yb xs := h.below (pw_below_drewN (Below.refl _ _) 1)
theorem UbAt.put (h : UbAt W w S gb pb sv q a b c d us u ub yb xs) (i : Nat) (v : Int) : UbAt W (w.setCell ⟨yb, i, none⟩ (.int .u8 v)) S gb pb sv q a b c d us u ub yb (xs.set i v) := by
  have hk : Ken (fun k => k = yb) w (w.setCell ⟨yb, i, none⟩ (.int .u8 v)) := (Ken.refl (fun k => k = yb) w).setCell (p := ⟨yb, i, none⟩) (.inl rfl) _
  have h1 := h.ylt
  have h2 := h.un.low
  have h3 := h.un.uge
  refine ⟨h.un.keep (R := fun k => k = yb) hk (fun k hk => by rw [hk]; exact .inr h1.1) (fun k hk => by rw [hk]; exact .inr (by omega)) (h.un.gm.ken2 hk (by omega) (by omega) (fun k he => by have := h.un.old k he; omega)) h.un.old, h.bt.set i v, h1.1, by simpa using h1.2⟩
theorem UbAt.setRed (h : UbAt W w S gb pb sv q a b c d us u ub yb xs) (x y : Nat) : UbAt W ((w.setCell ⟨gb, 5, none⟩ (.int .u64 (x : Int))).setCell ⟨gb, 6, none⟩ (.int .u64 (y : Int))) S gb pb sv q x y c d us u ub yb xs := by
  have hk : Ken (fun k => k = gb) w ((w.setCell ⟨gb, 5, none⟩ (.int .u64 (x : Int))).setCell ⟨gb, 6, none⟩ (.int .u64 (y : Int))) :=
    ((Ken.refl (fun k => k = gb) w).setCell (p := ⟨gb, 5, none⟩) (.inl rfl) _).setCell (p := ⟨gb, 6, none⟩) (.inl rfl) _
  have h1 := h.ylt
  have h2 := h.un.low
  have h3 := h.un.uge
  have hn : ¬ (yb = gb) := by omega
  exact ⟨h.un.keep (R := fun k => k = gb) hk (fun k hk => by rw [hk]; exact .inl h2.1) (fun k hk => by rw [hk]; exact .inl h.un.gm.sg) (h.un.gm.setRed x y) h.un.old, fun i hi => ⟨hk.cell (h.bt i hi).1 hn, (hk.free h1.2 hn).trans (h.bt i hi).2⟩, h1.1, Nat.lt_of_lt_of_le h1.2 hk.size⟩
theorem UbAt.setBlack (h : UbAt W w S gb pb sv q a b c d us u ub yb xs) (x y : Nat) : UbAt W ((w.setCell ⟨gb, 7, none⟩ (.int .u64 (x : Int))).setCell ⟨gb, 8, none⟩ (.int .u64 (y : Int))) S gb pb sv q a b x y us u ub yb xs := by
  have hk : Ken (fun k => k = gb) w ((w.setCell ⟨gb, 7, none⟩ (.int .u64 (x : Int))).setCell ⟨gb, 8, none⟩ (.int .u64 (y : Int))) :=
    ((Ken.refl (fun k => k = gb) w).setCell (p := ⟨gb, 7, none⟩) (.inl rfl) _).setCell (p := ⟨gb, 8, none⟩) (.inl rfl) _
  have h1 := h.ylt
  have h2 := h.un.low
  have h3 := h.un.uge
  have hn : ¬ (yb = gb) := by omega
  exact ⟨h.un.keep (R := fun k => k = gb) hk (fun k hk => by rw [hk]; exact .inl h2.1) (fun k hk => by rw [hk]; exact .inl h.un.gm.sg) (h.un.gm.setBlack x y) h.un.old, fun i hi => ⟨hk.cell (h.bt i hi).1 hn, (hk.free h1.2 hn).trans (h.bt i hi).2⟩, h1.1, Nat.lt_of_lt_of_le h1.2 hk.size⟩
/-- The end: the position ahead of the move is laid. -/
theorem UbAt.fin {p : Pos} (h : UbAt W w S gb pb sv q a b c d us u ub yb xs) (ha : loB (sqF p.cells 0) = a) (hb : hiB (sqF p.cells 0) = b) (hc : loB (sqF p.cells 1) = c) (hd : hiB (sqF p.cells 1) = d) :
    GmX ((((w.setCell ⟨gb, 1, none⟩ (.string p.cells)).setCell ⟨gb, 2, none⟩ (.int .i64 p.side)).setCell ⟨gb, 3, none⟩ (.int .i64 p.clock)).setCell ⟨gb, 4, none⟩ (.int .i64 p.full)) S gb pb sv p us ∧ Ken S W ((((w.setCell ⟨gb, 1, none⟩ (.string p.cells)).setCell ⟨gb, 2, none⟩ (.int .i64 p.side)).setCell ⟨gb, 3, none⟩ (.int .i64 p.clock)).setCell ⟨gb, 4, none⟩ (.int .i64 p.full)) := by
  have hk : Ken (fun k => k = gb) w ((((w.setCell ⟨gb, 1, none⟩ (.string p.cells)).setCell ⟨gb, 2, none⟩ (.int .i64 p.side)).setCell ⟨gb, 3, none⟩ (.int .i64 p.clock)).setCell ⟨gb, 4, none⟩ (.int .i64 p.full)) :=
    ((((Ken.refl (fun k => k = gb) w).setCell (p := ⟨gb, 1, none⟩) (.inl rfl) _).setCell (p := ⟨gb, 2, none⟩) (.inl rfl) _).setCell (p := ⟨gb, 3, none⟩) (.inl rfl) _).setCell (p := ⟨gb, 4, none⟩) (.inl rfl) _
  subst ha hb hc hd
  exact ⟨h.un.gm.setNow p, h.un.ken.trans hk (fun k hk => by rw [hk]; exact .inl h.un.gm.sg)⟩
end
set_option maxRecDepth 100000 in
set_option maxHeartbeats 1000000 in
/-- Nothing to take back. -/
theorem gunmake_end {W : World} {S : Nat → Prop} {gb pb : Nat} {sv : Value} {now : Pos} {a b c d : Nat} (h : GmZ W S gb pb sv now a b c d []) : Calls Tryz.prog 23 #[.pointer (some ⟨gb, 0, none⟩)] W fun e w' => e = .returned (.int .i64 10) ∧ w' = W := by
  obtain ⟨A, cap, rfl⟩ := row_form h.row
  have g0 := h.g0
  have p0 := h.p0
  clear h
  go_enter Tryz.func23, Tryz.ntmps23
  go_wp2_with fail
  go_ret
  exact ⟨rfl, rfl⟩
theorem setV_inj {a b c d : Nat} (h : setV a b = setV c d) : a = c ∧ b = d := by
  simp only [setV, Value.agg.injEq, Array.mk.injEq, List.cons.injEq, Value.int.injEq, true_and, and_true] at h
  omega
def UnIs (S : Nat → Prop) (gb pb : Nat) (p : Pos) (us : List Und) (W : World) (e : Ending) (w' : World) : Prop := ∃ sv', e = .returned (.int .i64 0) ∧ GmX w' S gb pb sv' p us ∧ Ken S W w'
set_option maxRecDepth 100000 in
set_option maxHeartbeats 4000000 in
theorem gunmake_c (S : Nat → Prop) (gb pb : Nat) (sv : Value) (p q : Pos) (us : List Und) (u : Und) (W : World) (hG : GmX W S gb pb sv q (us ++ [u])) (hok : OkMv p q u.mv u.tk) (hck : u.ck = p.clock) (hfl : u.fl = p.full) (hl : us.length < 1024) :
    Calls Tryz.prog 23 #[.pointer (some ⟨gb, 0, none⟩)] W (UnIs S gb pb p us W) := by
  obtain ⟨⟨ma, mb⟩, tk, ck, fl⟩ := u
  have HCK := Aside0.mk hck
  have HFL := Aside0.mk hfl
  clear hck hfl
  obtain ⟨bb, cap, rfl, _⟩ := row_at hG.row (by simp)
  have hcap : us.length + 1 ≤ cap := by
    obtain ⟨_, ⟨h, _⟩ | ⟨g', cap', cur, h1, _, _, h2, _⟩⟩ := hG.row
    · cases h
    · simp only [Value.slice.injEq] at h1; obtain ⟨_, _, rfl⟩ := h1; simpa using h2
  have HU := Aside0.mk (und_cells hG.row us.length (by simp))
  have hlast : ((us ++ [(⟨(ma, mb), tk, ck, fl⟩ : Und)])[us.length]'(by simp)) = ⟨(ma, mb), tk, ck, fl⟩ := by simp
  rw [hlast] at HU
  have HN := Aside0.mk (UnAt.new hG ma mb tk ck fl)
  have hlen : (us ++ [(⟨(ma, mb), tk, ck, fl⟩ : Und)]).length = us.length + 1 := by simp
  obtain ⟨g0, _, _, _, _, _, _, _, _, _, p0, _, _, _, _, _, _⟩ := hG
  rw [hlen] at p0
  obtain ⟨v0, v1, v2, v3, v4⟩ := HU.out
  simp only at v0 v1 v2 v3 v4
  have hbd := hok.bd
  have HBK := Aside0.mk hok.back
  have ha := hok.a90
  have hb := hok.b90
  have z1 : IntKind.i64.wrap ((us.length : Int) + 1 - 1) = us.length := by rw [IntKind.wrap_i64]; omega
  have z2 : IntKind.i64.wrap (us.length : Int) = us.length := by rw [IntKind.wrap_i64]; omega
  have m0 : 0 ≤ (us.length : Int) := by omega
  have m1 : (us.length : Int) < (us.length : Int) + 1 := by omega
  have m2 : (us.length : Int) ≤ (cap : Int) := by omega
  have m3 : (us.length : Int) + 1 ≤ (cap : Int) := by omega
  have m4 : (us.length : Int) + 1 ≠ 0 := by omega
  clear hlast HU hcap hl
  go_enter Tryz.func23, Tryz.ntmps23
  go_wp2_with fail
  go_cut [3] from 19 to 36 (fun s3 wx => ∃ ub, s3 = .pointer (some ⟨ub, 0, none⟩) ∧ Aside0 (UnAt W wx S gb pb (.slice (some ⟨bb, 0, none⟩) (us ++ [(⟨(ma, mb), tk, ck, fl⟩ : Und)]).length cap) q (loB (sqF q.cells 0)) (hiB (sqF q.cells 0)) (loB (sqF q.cells 1)) (hiB (sqF q.cells 1)) (us ++ [(⟨(ma, mb), tk, ck, fl⟩ : Und)]) ⟨(ma, mb), tk, ck, fl⟩ ub))
  case first =>
    go_region_held3 (fun V => V.cell? ⟨gb, 0, none⟩ = some (.pointer (some ⟨pb, 0, none⟩)) ∧ V.cell? ⟨pb, 0, none⟩ = some (.slice (some ⟨bb, 0, none⟩) (us.length + 1) cap) ∧ V.cell? ⟨bb, us.length * 5, none⟩ = some (.int .i64 (ma : Int)) ∧ V.cell? ⟨bb, us.length * 5 + 1, none⟩ = some (.int .i64 (mb : Int)) ∧ V.cell? ⟨bb, us.length * 5 + 2, none⟩ = some (.int .u8 (tk : Int)) ∧ V.cell? ⟨bb, us.length * 5 + 3, none⟩ = some (.int .i64 ck) ∧ V.cell? ⟨bb, us.length * 5 + 4, none⟩ = some (.int .i64 fl)) (go_keep) (fail)
    all_goals
      go_wp2_with fail
      go_meet
      first
      | exact ⟨_, rfl, HN⟩
      | exact ⟨_, rfl, ⟨HN.out.drew⟩⟩
  case rest =>
  obtain ⟨ub, rfl, HQ⟩ := hcut
  clear HN g0 p0 v0 v1 v2 v3 v4
  obtain ⟨g0, g1, g2, g3, g4, g5, g6, g7, g8, gf, p0, pf, _, hne, _, _, _⟩ := HQ.out.gm
  rw [hlen] at p0
  have hne2 : pb ≠ gb := fun h => hne h.symm
  go_wp2_with fail
  go_cut [2] from 37 to 59 (fun s2 wx => s2 = .int .i64 0 ∧ Aside0 (UnAt W wx S gb pb (.slice (some ⟨bb, 0, none⟩) us.length cap) q (loB (sqF q.cells 0)) (hiB (sqF q.cells 0)) (loB (sqF q.cells 1)) (hiB (sqF q.cells 1)) us ⟨(ma, mb), tk, ck, fl⟩ ub))
  case first =>
    go_still_tail 23, (by kernel_rfl)
    change wpList _ _ _ _ _ wc.drew
    have HQD := Aside0.mk HQ.out.drew
    have p0' := HQD.out.gm.p0
    have pf' := HQD.out.gm.pf
    rw [hlen] at p0'
    generalize wc.drew = W2 at *
    go_wp2_with fail
    go_meet
    exact ⟨rfl, ⟨HQD.out.stack rfl⟩⟩
  case rest =>
  obtain ⟨rfl, HQ2⟩ := hcut
  clear g0 g1 g2 g3 g4 g5 g6 g7 g8 gf p0 pf HQ hne2 hne z1 z2 m0 m1 m2 m3 m4 hlen
  have hsz0 := board_size hok.qbd
  have HSZ := Aside0.mk hsz0
  obtain ⟨g0, g1, g2, g3, g4, g5, g6, g7, g8, gf, _, _, _, _, _, _, _⟩ := HQ2.out.gm
  have kb := fun W => print_bytes (P := Tryz.prog) 9 94 5 Tryz.underlying9 Tryz.underlying94 Tryz.underlying5 q.cells W
  have HW := Aside0.mk hok
  clear hok hsz0 hbd
  go_wp2_with (simp only [kb])
  have HB := Aside0.mk (UbAt.new HQ2.out q.cells)
  generalize Lib.bytesWorld wc 5 q.cells = W8 at *
  generalize hyc : grownCap wc q.cells.size 0 5 = yc at *
  generalize hyb : wc.heap.size = yb at *
  clear hyc hyb HQ2 kb g0 g1 g2 g3 g4 g5 g6 g7 g8 gf
  have hsz : (q.cells.size : Int) = 90 := by rw [HSZ.out]; rfl
  have a0 : 0 ≤ (ma : Int) := by omega
  have a1 : (ma : Int) < 90 := by omega
  have b0 : 0 ≤ (mb : Int) := by omega
  have b1 : (mb : Int) < 90 := by omega
  obtain ⟨_, u0, u1, u2, u3, u4, _, _, _, _⟩ := HB.out.un
  simp only at u0 u1 u2 u3 u4
  obtain ⟨ka, fa⟩ := HB.out.bt ma (by rw [bytesOf_length, HSZ.out]; omega)
  obtain ⟨kb2, fb⟩ := HB.out.bt mb (by rw [bytesOf_length, HSZ.out]; omega)
  have HXB := Aside0.mk (show (bytesOf q.cells).getD mb 0 = (cel q.cells mb : Int) from bytes_getD q.cells mb (by rw [HSZ.out]; omega))
  rw [HXB.out] at kb2
  have HBK2 : Aside0 (strOfNums (((bytesOf q.cells).set ma (cel q.cells mb : Int)).set mb (if tk = 0 then 46 else (tk : Int))) = p.cells) := HBK
  obtain ⟨ks, fs⟩ := (HB.out.bt.set ma (cel q.cells mb : Int)) mb (by rw [List.length_set, bytesOf_length, HSZ.out]; omega)
  generalize ((bytesOf q.cells).set ma (cel q.cells mb : Int)).getD mb 0 = xs at ks
  generalize (bytesOf q.cells).getD ma 0 = xa at *
  generalize cel q.cells mb = x at *
  have yn : yb ≠ ub := by have := HB.out.ylt.1; omega
  have yn2 : ub ≠ yb := fun h => yn h.symm
  clear HBK
  go_region
  have HB2 := Aside0.mk ((HB.out.put ma (x : Int)).put mb 46).drew
  generalize ((W8.setCell ⟨yb, ma, none⟩ (.int .u8 (x : Int))).setCell ⟨yb, mb, none⟩ (.int .u8 46)).drew = W9 at *
  clear HB u0 u1 u2 u3 u4 ka fa kb2 fb ks fs HXB
  have HL2 := Aside0.mk (show (((bytesOf q.cells).set ma (x : Int)).set mb 46).length = q.cells.size by rw [List.length_set, List.length_set, bytesOf_length])
  have HL3 := Aside0.mk (show ((((bytesOf q.cells).set ma (x : Int)).set mb 46).set mb (tk : Int)).length = q.cells.size by rw [List.length_set, List.length_set, List.length_set, bytesOf_length])
  have hz1 : IntKind.i64.wrap ((1 : Int) - 0) = 1 := by decide
  have hz2 : IntKind.i64.wrap ((1 : Int) - 1) = 0 := by decide
  have hz3 : IntKind.i64.wrap 1 = 1 := by decide
  have hz4 : IntKind.i64.wrap 0 = 0 := by decide
  rcases HW.out.sd with hs | hs
  · have hq : q.side = 1 := by rw [HW.out.qs, hs]; rfl
    have HO : setF (putF (cutF (sqF q.cells 0) mb) ma) = setF (sqF p.cells 0) := by have h := HW.out.back_own; rw [hs] at h; exact h
    have HO2 : (tk = 0 → setF (sqF q.cells 1) = setF (sqF p.cells 1)) ∧ (tk ≠ 0 → setF (putF (sqF q.cells 1) mb) = setF (sqF p.cells 1)) := by have h := HW.out.back_oth; rw [hs, show ((1 : Int) - 0) = 1 from rfl] at h; exact h
    have HW1 := Aside0.mk (fun V => without_c (sqF q.cells 0) mb hb V)
    have HW2 := Aside0.mk (fun V => with_c (cutF (sqF q.cells 0) mb) ma ha V)
    have HW3 := Aside0.mk (fun V => with_c (sqF q.cells 1) mb hb V)
    rw [HO] at HW2
    have HO3 := Aside0.mk HO2
    have HQS := Aside0.mk hq
    have HS := Aside0.mk hs
    clear HO HO2 hq hs ha hb HW
    unfold setF at HW1 HW2 HW3 HO3
    generalize loB (putF (sqF q.cells 1) mb) = E3 at *
    generalize hiB (putF (sqF q.cells 1) mb) = F3 at *
    generalize loB (cutF (sqF q.cells 0) mb) = E1 at *
    generalize hiB (cutF (sqF q.cells 0) mb) = F1 at *
    generalize loB (sqF q.cells 0) = A0 at *
    generalize hiB (sqF q.cells 0) = B0 at *
    generalize loB (sqF q.cells 1) = C0 at *
    generalize hiB (sqF q.cells 1) = D0 at *
    generalize hA : loB (sqF p.cells 0) = A2 at HW2 HO3
    generalize hB : hiB (sqF p.cells 0) = B2 at HW2 HO3
    generalize hC : loB (sqF p.cells 1) = C2 at HW2 HO3
    generalize hD : hiB (sqF p.cells 1) = D2 at HW2 HO3
    have HA := Aside0.mk hA
    have HBB := Aside0.mk hB
    have HC := Aside0.mk hC
    have HD := Aside0.mk hD
    clear hA hB hC hD
    obtain ⟨g0, g1, g2, g3, g4, g5, g6, g7, g8, gf, _, _, _, _, _, _, _⟩ := HB2.out.un.gm
    obtain ⟨_, u0, u1, u2, u3, u4, _, _, _, _⟩ := HB2.out.un
    simp only at u0 u1 u2 u3 u4
    rw [HQS.out] at g2
    have gn1 : gb ≠ ub := by have := HB2.out.un.low; have := HB2.out.un.uge; omega
    have gn2 : ub ≠ gb := fun h => gn1 h.symm
    have HX5 := Aside0.mk HB2.out.drew
    clear HB2
    go_wp2_with fail
    refine wp_region_held_drew (S := (fun V => V.cell? ⟨ub, 0, none⟩ = some (.int .i64 (ma : Int)) ∧ V.cell? ⟨ub, 1, none⟩ = some (.int .i64 (mb : Int)))) (by kernel_rfl) ?_ (fun hHeld => ?_)
    · (try dsimp only)
      go_keep
    refine wpAnyH_take (i := 0) (v := ?_) rfl (by kernel_rfl) (by kernel_rfl) (by kernel_rfl) (fun _ _ _ h => h) (Or.inl ⟨by rfl, ?_⟩) (by assumption) ?_
    rotate_left
    · (intro w hSw; (try dsimp only at hSw); go_simp); (try with_reducible rfl)
    (try simp only [Act.put, List.setIfInBounds_toArray, List.set_cons_zero, List.set_cons_succ])
    refine wpAnyH_take (i := 1) (v := ?_) rfl (by kernel_rfl) (by kernel_rfl) (by kernel_rfl) (fun _ _ _ h => h) (Or.inl ⟨by rfl, ?_⟩) (by assumption) ?_
    rotate_left
    · (intro w hSw; (try dsimp only at hSw); go_simp); (try with_reducible rfl)
    (try simp only [Act.put, List.setIfInBounds_toArray, List.set_cons_zero, List.set_cons_succ])
    refine wpAnyH_take (i := 2) (v := ?_) rfl (by kernel_rfl) (by kernel_rfl) (by kernel_rfl) (fun _ _ _ h => h) (Or.inl ⟨by rfl, ?_⟩) (by assumption) ?_
    rotate_left
    · (intro w hSw; (try dsimp only at hSw); go_simp); (try with_reducible rfl)
    (try simp only [Act.put, List.setIfInBounds_toArray, List.set_cons_zero, List.set_cons_succ])
    refine wpAnyH_take (i := 3) (v := ?_) rfl (by kernel_rfl) (by kernel_rfl) (by kernel_rfl) (fun _ _ _ h => h) (Or.inl ⟨by rfl, ?_⟩) (by assumption) ?_
    rotate_left
    · (intro w hSw; (try dsimp only at hSw); go_simp); (try with_reducible rfl)
    (try simp only [Act.put, List.setIfInBounds_toArray, List.set_cons_zero, List.set_cons_succ])
    refine wpAnyH_take (i := 4) (v := ?_) rfl (by kernel_rfl) (by kernel_rfl) (by kernel_rfl) (fun _ _ _ h => h) (Or.inl ⟨by rfl, ?_⟩) (by assumption) ?_
    rotate_left
    · (intro w hSw; (try dsimp only at hSw); go_simp); (try with_reducible rfl)
    (try simp only [Act.put, List.setIfInBounds_toArray, List.set_cons_zero, List.set_cons_succ])
    refine wpAnyH_take (i := 5) (v := ?_) rfl (by kernel_rfl) (by kernel_rfl) (by kernel_rfl) (fun _ _ _ h => h) (Or.inl ⟨by rfl, ?_⟩) (by assumption) ?_
    rotate_left
    · (intro w hSw; (try dsimp only at hSw); go_simp); (try with_reducible rfl)
    (try simp only [Act.put, List.setIfInBounds_toArray, List.set_cons_zero, List.set_cons_succ])
    refine wpAnyH_take (i := 6) (v := ?_) rfl (by kernel_rfl) (by kernel_rfl) (by kernel_rfl) (fun _ _ _ h => h) (Or.inl ⟨by rfl, ?_⟩) (by assumption) ?_
    rotate_left
    · (intro w hSw; (try dsimp only at hSw); go_simp); (try with_reducible rfl)
    (try simp only [Act.put, List.setIfInBounds_toArray, List.set_cons_zero, List.set_cons_succ])
    refine wpAnyH_take (i := 8) (v := ?_) rfl (by kernel_rfl) (by kernel_rfl) (by kernel_rfl) (fun _ _ _ h => h) (Or.inl ⟨by rfl, ?_⟩) (by assumption) ?_
    rotate_left
    · (intro w hSw; (try dsimp only at hSw); go_simp); (try with_reducible rfl)
    (try simp only [Act.put, List.setIfInBounds_toArray, List.set_cons_zero, List.set_cons_succ])
    refine wpAnyH_take (i := 9) (v := ?_) rfl (by kernel_rfl) (by kernel_rfl) (by kernel_rfl) (fun _ _ _ h => h) (Or.inl ⟨by rfl, ?_⟩) (by assumption) ?_
    rotate_left
    · (intro w hSw; (try dsimp only at hSw); go_simp); (try with_reducible rfl)
    (try simp only [Act.put, List.setIfInBounds_toArray, List.set_cons_zero, List.set_cons_succ])
    refine wpAnyH_take (i := 10) (v := ?_) rfl (by kernel_rfl) (by kernel_rfl) (by kernel_rfl) (fun _ _ _ h => h) (Or.inl ⟨by rfl, ?_⟩) (by assumption) ?_
    rotate_left
    · (intro w hSw; (try dsimp only at hSw); go_simp); (try with_reducible rfl)
    (try simp only [Act.put, List.setIfInBounds_toArray, List.set_cons_zero, List.set_cons_succ])
    refine wpAnyH_take (i := 12) (v := ?_) rfl (by kernel_rfl) (by kernel_rfl) (by kernel_rfl) (fun _ _ _ h => h) (Or.inl ⟨by rfl, ?_⟩) (by assumption) ?_
    rotate_left
    · (intro w hSw; (try dsimp only at hSw); go_simp); (try with_reducible rfl)
    (try simp only [Act.put, List.setIfInBounds_toArray, List.set_cons_zero, List.set_cons_succ])
    refine wpAnyH_take (i := 13) (v := ?_) rfl (by kernel_rfl) (by kernel_rfl) (by kernel_rfl) (fun _ _ _ h => h) (Or.inl ⟨by rfl, ?_⟩) (by assumption) ?_
    rotate_left
    · (intro w hSw; (try dsimp only at hSw); go_simp); (try with_reducible rfl)
    (try simp only [Act.put, List.setIfInBounds_toArray, List.set_cons_zero, List.set_cons_succ])
    refine wpAnyH_take (i := 14) (v := ?_) rfl (by kernel_rfl) (by kernel_rfl) (by kernel_rfl) (fun _ _ _ h => h) (Or.inl ⟨by rfl, ?_⟩) (by assumption) ?_
    rotate_left
    · (intro w hSw; (try dsimp only at hSw); go_simp); (try with_reducible rfl)
    (try simp only [Act.put, List.setIfInBounds_toArray, List.set_cons_zero, List.set_cons_succ])
    refine wpAnyH_take (i := 16) (v := ?_) rfl (by kernel_rfl) (by kernel_rfl) (by kernel_rfl) (fun _ _ _ h => h) (Or.inl ⟨by rfl, ?_⟩) (by assumption) ?_
    rotate_left
    · (intro w hSw; (try dsimp only at hSw); go_simp); (try with_reducible rfl)
    (try simp only [Act.put, List.setIfInBounds_toArray, List.set_cons_zero, List.set_cons_succ])
    refine wpAnyH_take (i := 17) (v := ?_) rfl (by kernel_rfl) (by kernel_rfl) (by kernel_rfl) (fun _ _ _ h => h) (Or.inl ⟨by rfl, ?_⟩) (by assumption) ?_
    rotate_left
    · (intro w hSw; (try dsimp only at hSw); go_simp); (try with_reducible rfl)
    (try simp only [Act.put, List.setIfInBounds_toArray, List.set_cons_zero, List.set_cons_succ])
    refine wpAnyH_ready (rs := [7]) (by kernel_rfl) (by simp) ?_
    refine AllReadyH.cons rfl (fun K hK => ?_) AllReadyH.nil
    go_simp
    refine hK.out _ _ ?_ (fun hHeld2 => ?_)
    · (try dsimp only)
      go_keep
    clear hK K
    (try simp only [Act.put, List.setIfInBounds_toArray, List.set_cons_zero, List.set_cons_succ])
    refine wpAnyH_ready (rs := [11]) (by kernel_rfl) (by simp) ?_
    refine AllReadyH.cons rfl (fun K hK => ?_) AllReadyH.nil
    (go_simp; go_at_call 65; (with_reducible refine (HW1.out _).mono ?_); rintro e w6 ⟨rfl, hb⟩; have HX6 := Aside0.mk (HX5.out.below hb); clear HX5 hb g0 g1 g2 g3 g4 g5 g6 g7 g8 gf u0 u1 u2 u3 u4; obtain ⟨g0, g1, g2, g3, g4, g5, g6, g7, g8, gf, _, _, _, _, _, _, _⟩ := HX6.out.un.gm; obtain ⟨_, u0, u1, u2, u3, u4, _, _, _, _⟩ := HX6.out.un; simp only at u0 u1 u2 u3 u4; (try go_wp2_with fail))
    refine hK.out _ _ ?_ (fun hHeld3 => ?_)
    · (try dsimp only)
      go_keep
    clear hK K
    (try simp only [Act.put, List.setIfInBounds_toArray, List.set_cons_zero, List.set_cons_succ])
    refine wpAnyH_ready (rs := [15]) (by kernel_rfl) (by simp) ?_
    refine AllReadyH.cons rfl (fun K hK => ?_) AllReadyH.nil
    (go_simp; go_at_call 66; (with_reducible refine (HW2.out _).mono ?_); rintro e w7 ⟨rfl, hb⟩; have HX7 := Aside0.mk (HX6.out.below hb); clear HX6 hb g0 g1 g2 g3 g4 g5 g6 g7 g8 gf u0 u1 u2 u3 u4; obtain ⟨g0, g1, g2, g3, g4, g5, g6, g7, g8, gf, _, _, _, _, _, _, _⟩ := HX7.out.un.gm; obtain ⟨_, u0, u1, u2, u3, u4, _, _, _, _⟩ := HX7.out.un; simp only at u0 u1 u2 u3 u4; (try go_wp2_with fail))
    refine hK.out _ _ ?_ (fun hHeld4 => ?_)
    · (try dsimp only)
      go_keep
    clear hK K
    (try simp only [Act.put, List.setIfInBounds_toArray, List.set_cons_zero, List.set_cons_succ])
    refine wpAnyH_take (i := 18) (v := ?_) rfl (by kernel_rfl) (by kernel_rfl) (by kernel_rfl) (fun _ _ _ h => h) (Or.inl ⟨by rfl, ?_⟩) (by assumption) ?_
    rotate_left
    · (intro w hSw; (try dsimp only at hSw); go_simp); (try with_reducible rfl)
    (try simp only [Act.put, List.setIfInBounds_toArray, List.set_cons_zero, List.set_cons_succ])
    refine wpAnyH_ready (rs := [19]) (by kernel_rfl) (by simp) ?_
    refine AllReadyH.cons rfl (fun K hK => ?_) AllReadyH.nil
    go_simp
    refine hK.out _ _ ?_ (fun hHeld5 => ?_)
    · (try dsimp only)
      go_keep
    clear hK K
    (try simp only [Act.put, List.setIfInBounds_toArray, List.set_cons_zero, List.set_cons_succ])
    refine wpAnyH_done (by kernel_rfl) ?_ _
    all_goals
      have HX8 := Aside0.mk (HX7.out.setRed A2 B2)
      clear HX7 g0 g1 g2 g3 g4 g5 g6 g7 g8 gf u0 u1 u2 u3 u4
      generalize (w7.setCell ⟨gb, 5, none⟩ (.int .u64 (A2 : Int))).setCell ⟨gb, 6, none⟩ (.int .u64 (B2 : Int)) = W11 at *
      by_cases htk : tk = 0
      case pos =>
        obtain ⟨rfl, rfl⟩ := setV_inj (HO3.out.1 htk)
        have hbs := HX8.out.bt
        have kc := bytes_string hbs 94 Tryz.underlying94 (cap := yc)
        rw [HL2.out, show (((bytesOf q.cells).set ma (x : Int)).set mb 46) = (((bytesOf q.cells).set ma (x : Int)).set mb (if tk = 0 then 46 else (tk : Int))) by rw [if_pos htk], HBK2.out] at kc
        have HF := Aside0.mk (HX8.out.fin (p := p) HA.out HBB.out HC.out HD.out)
        rw [HS.out, ← HCK.out, ← HFL.out] at HF
        obtain ⟨g0, g1, g2, g3, g4, g5, g6, g7, g8, gf, _, _, _, _, _, _, _⟩ := HX8.out.un.gm
        obtain ⟨_, u0, u1, u2, u3, u4, _, _, _, _⟩ := HX8.out.un
        simp only at u0 u1 u2 u3 u4
        have hb0 : ((tk : Int) != 0) = false := by simp [htk]
        have hb1 : ((tk : Int) == 0) = true := by simp [htk]
        clear HX8 hbs
        go_wp2_with (simp only [kc])
        go_ret
        exact ⟨_, rfl, HF.out⟩
      case neg =>
        rw [HO3.out.2 htk] at HW3
        obtain ⟨ky, fy⟩ := HX8.out.bt mb (by rw [HL2.out, HSZ.out]; omega)
        generalize (((bytesOf q.cells).set ma (x : Int)).set mb 46).getD mb 0 = xq at *
        obtain ⟨g0, g1, g2, g3, g4, g5, g6, g7, g8, gf, _, _, _, _, _, _, _⟩ := HX8.out.un.gm
        obtain ⟨_, u0, u1, u2, u3, u4, _, _, _, _⟩ := HX8.out.un
        simp only at u0 u1 u2 u3 u4
        have hb0 : ((tk : Int) != 0) = true := by simp [htk]
        have hb1 : ((tk : Int) == 0) = false := by simp [htk]
        have HTK := Aside0.mk htk
        clear htk
        go_wp2_with fail
        have HX9 := Aside0.mk ((HX8.out.put mb (tk : Int)).drew)
        have HX9' := Aside0.mk (HX8.out.put mb (tk : Int))
        clear HX8 g0 g1 g2 g3 g4 g5 g6 g7 g8 gf u0 u1 u2 u3 u4 ky fy
        generalize W11.setCell ⟨yb, mb, none⟩ (.int .u8 (tk : Int)) = W12 at *
        obtain ⟨g0, g1, g2, g3, g4, g5, g6, g7, g8, gf, _, _, _, _, _, _, _⟩ := HX9'.out.un.gm
        obtain ⟨_, u0, u1, u2, u3, u4, _, _, _, _⟩ := HX9'.out.un
        simp only at u0 u1 u2 u3 u4
        clear HX9'
        refine wp_region_held_drew (S := (fun V => V.cell? ⟨ub, 0, none⟩ = some (.int .i64 (ma : Int)) ∧ V.cell? ⟨ub, 1, none⟩ = some (.int .i64 (mb : Int)))) (by kernel_rfl) ?_ (fun hHeld => ?_)
        · (try dsimp only)
          go_keep
        refine wpAnyH_take (i := 0) (v := ?_) rfl (by kernel_rfl) (by kernel_rfl) (by kernel_rfl) (fun _ _ _ h => h) (Or.inl ⟨by rfl, ?_⟩) (by assumption) ?_
        rotate_left
        · (intro w hSw; (try dsimp only at hSw); go_simp); (try with_reducible rfl)
        (try simp only [Act.put, List.setIfInBounds_toArray, List.set_cons_zero, List.set_cons_succ])
        refine wpAnyH_take (i := 1) (v := ?_) rfl (by kernel_rfl) (by kernel_rfl) (by kernel_rfl) (fun _ _ _ h => h) (Or.inl ⟨by rfl, ?_⟩) (by assumption) ?_
        rotate_left
        · (intro w hSw; (try dsimp only at hSw); go_simp); (try with_reducible rfl)
        (try simp only [Act.put, List.setIfInBounds_toArray, List.set_cons_zero, List.set_cons_succ])
        refine wpAnyH_take (i := 2) (v := ?_) rfl (by kernel_rfl) (by kernel_rfl) (by kernel_rfl) (fun _ _ _ h => h) (Or.inl ⟨by rfl, ?_⟩) (by assumption) ?_
        rotate_left
        · (intro w hSw; (try dsimp only at hSw); go_simp); (try with_reducible rfl)
        (try simp only [Act.put, List.setIfInBounds_toArray, List.set_cons_zero, List.set_cons_succ])
        refine wpAnyH_take (i := 3) (v := ?_) rfl (by kernel_rfl) (by kernel_rfl) (by kernel_rfl) (fun _ _ _ h => h) (Or.inl ⟨by rfl, ?_⟩) (by assumption) ?_
        rotate_left
        · (intro w hSw; (try dsimp only at hSw); go_simp); (try with_reducible rfl)
        (try simp only [Act.put, List.setIfInBounds_toArray, List.set_cons_zero, List.set_cons_succ])
        refine wpAnyH_take (i := 4) (v := ?_) rfl (by kernel_rfl) (by kernel_rfl) (by kernel_rfl) (fun _ _ _ h => h) (Or.inl ⟨by rfl, ?_⟩) (by assumption) ?_
        rotate_left
        · (intro w hSw; (try dsimp only at hSw); go_simp); (try with_reducible rfl)
        (try simp only [Act.put, List.setIfInBounds_toArray, List.set_cons_zero, List.set_cons_succ])
        refine wpAnyH_take (i := 5) (v := ?_) rfl (by kernel_rfl) (by kernel_rfl) (by kernel_rfl) (fun _ _ _ h => h) (Or.inl ⟨by rfl, ?_⟩) (by assumption) ?_
        rotate_left
        · (intro w hSw; (try dsimp only at hSw); go_simp); (try with_reducible rfl)
        (try simp only [Act.put, List.setIfInBounds_toArray, List.set_cons_zero, List.set_cons_succ])
        refine wpAnyH_take (i := 6) (v := ?_) rfl (by kernel_rfl) (by kernel_rfl) (by kernel_rfl) (fun _ _ _ h => h) (Or.inl ⟨by rfl, ?_⟩) (by assumption) ?_
        rotate_left
        · (intro w hSw; (try dsimp only at hSw); go_simp); (try with_reducible rfl)
        (try simp only [Act.put, List.setIfInBounds_toArray, List.set_cons_zero, List.set_cons_succ])
        refine wpAnyH_take (i := 7) (v := ?_) rfl (by kernel_rfl) (by kernel_rfl) (by kernel_rfl) (fun _ _ _ h => h) (Or.inl ⟨by rfl, ?_⟩) (by assumption) ?_
        rotate_left
        · (intro w hSw; (try dsimp only at hSw); go_simp); (try with_reducible rfl)
        (try simp only [Act.put, List.setIfInBounds_toArray, List.set_cons_zero, List.set_cons_succ])
        refine wpAnyH_take (i := 8) (v := ?_) rfl (by kernel_rfl) (by kernel_rfl) (by kernel_rfl) (fun _ _ _ h => h) (Or.inl ⟨by rfl, ?_⟩) (by assumption) ?_
        rotate_left
        · (intro w hSw; (try dsimp only at hSw); go_simp); (try with_reducible rfl)
        (try simp only [Act.put, List.setIfInBounds_toArray, List.set_cons_zero, List.set_cons_succ])
        refine wpAnyH_take (i := 10) (v := ?_) rfl (by kernel_rfl) (by kernel_rfl) (by kernel_rfl) (fun _ _ _ h => h) (Or.inl ⟨by rfl, ?_⟩) (by assumption) ?_
        rotate_left
        · (intro w hSw; (try dsimp only at hSw); go_simp); (try with_reducible rfl)
        (try simp only [Act.put, List.setIfInBounds_toArray, List.set_cons_zero, List.set_cons_succ])
        refine wpAnyH_take (i := 11) (v := ?_) rfl (by kernel_rfl) (by kernel_rfl) (by kernel_rfl) (fun _ _ _ h => h) (Or.inl ⟨by rfl, ?_⟩) (by assumption) ?_
        rotate_left
        · (intro w hSw; (try dsimp only at hSw); go_simp); (try with_reducible rfl)
        (try simp only [Act.put, List.setIfInBounds_toArray, List.set_cons_zero, List.set_cons_succ])
        refine wpAnyH_take (i := 12) (v := ?_) rfl (by kernel_rfl) (by kernel_rfl) (by kernel_rfl) (fun _ _ _ h => h) (Or.inl ⟨by rfl, ?_⟩) (by assumption) ?_
        rotate_left
        · (intro w hSw; (try dsimp only at hSw); go_simp); (try with_reducible rfl)
        (try simp only [Act.put, List.setIfInBounds_toArray, List.set_cons_zero, List.set_cons_succ])
        refine wpAnyH_take (i := 14) (v := ?_) rfl (by kernel_rfl) (by kernel_rfl) (by kernel_rfl) (fun _ _ _ h => h) (Or.inl ⟨by rfl, ?_⟩) (by assumption) ?_
        rotate_left
        · (intro w hSw; (try dsimp only at hSw); go_simp); (try with_reducible rfl)
        (try simp only [Act.put, List.setIfInBounds_toArray, List.set_cons_zero, List.set_cons_succ])
        refine wpAnyH_take (i := 15) (v := ?_) rfl (by kernel_rfl) (by kernel_rfl) (by kernel_rfl) (fun _ _ _ h => h) (Or.inl ⟨by rfl, ?_⟩) (by assumption) ?_
        rotate_left
        · (intro w hSw; (try dsimp only at hSw); go_simp); (try with_reducible rfl)
        (try simp only [Act.put, List.setIfInBounds_toArray, List.set_cons_zero, List.set_cons_succ])
        refine wpAnyH_ready (rs := [9]) (by kernel_rfl) (by simp) ?_
        refine AllReadyH.cons rfl (fun K hK => ?_) AllReadyH.nil
        go_simp
        refine hK.out _ _ ?_ (fun hHeld2 => ?_)
        · (try dsimp only)
          go_keep
        clear hK K
        (try simp only [Act.put, List.setIfInBounds_toArray, List.set_cons_zero, List.set_cons_succ])
        refine wpAnyH_ready (rs := [13]) (by kernel_rfl) (by simp) ?_
        refine AllReadyH.cons rfl (fun K hK => ?_) AllReadyH.nil
        (go_simp; go_at_call 66; (with_reducible refine (HW3.out _).mono ?_); rintro e w10 ⟨rfl, hb⟩; have HX10 := Aside0.mk (HX9.out.below hb); clear HX9 hb g0 g1 g2 g3 g4 g5 g6 g7 g8 gf u0 u1 u2 u3 u4; obtain ⟨g0, g1, g2, g3, g4, g5, g6, g7, g8, gf, _, _, _, _, _, _, _⟩ := HX10.out.un.gm; obtain ⟨_, u0, u1, u2, u3, u4, _, _, _, _⟩ := HX10.out.un; simp only at u0 u1 u2 u3 u4; (try go_wp2_with fail))
        refine hK.out _ _ ?_ (fun hHeld3 => ?_)
        · (try dsimp only)
          go_keep
        clear hK K
        (try simp only [Act.put, List.setIfInBounds_toArray, List.set_cons_zero, List.set_cons_succ])
        refine wpAnyH_take (i := 16) (v := ?_) rfl (by kernel_rfl) (by kernel_rfl) (by kernel_rfl) (fun _ _ _ h => h) (Or.inl ⟨by rfl, ?_⟩) (by assumption) ?_
        rotate_left
        · (intro w hSw; (try dsimp only at hSw); go_simp); (try with_reducible rfl)
        (try simp only [Act.put, List.setIfInBounds_toArray, List.set_cons_zero, List.set_cons_succ])
        refine wpAnyH_ready (rs := [17]) (by kernel_rfl) (by simp) ?_
        refine AllReadyH.cons rfl (fun K hK => ?_) AllReadyH.nil
        go_simp
        refine hK.out _ _ ?_ (fun hHeld4 => ?_)
        · (try dsimp only)
          go_keep
        clear hK K
        (try simp only [Act.put, List.setIfInBounds_toArray, List.set_cons_zero, List.set_cons_succ])
        refine wpAnyH_done (by kernel_rfl) ?_ _
        all_goals
          have HX11 := Aside0.mk (HX10.out.setBlack C2 D2)
          clear HX10 g0 g1 g2 g3 g4 g5 g6 g7 g8 gf u0 u1 u2 u3 u4
          generalize (w10.setCell ⟨gb, 7, none⟩ (.int .u64 (C2 : Int))).setCell ⟨gb, 8, none⟩ (.int .u64 (D2 : Int)) = W13 at *
          have hbs := HX11.out.bt
          have kc := bytes_string hbs 94 Tryz.underlying94 (cap := yc)
          rw [HL3.out, show ((((bytesOf q.cells).set ma (x : Int)).set mb 46).set mb (tk : Int)) = (((bytesOf q.cells).set ma (x : Int)).set mb (if tk = 0 then 46 else (tk : Int))) by rw [if_neg HTK.out, List.set_set], HBK2.out] at kc
          have HF := Aside0.mk (HX11.out.fin (p := p) HA.out HBB.out HC.out HD.out)
          rw [HS.out, ← HCK.out, ← HFL.out] at HF
          obtain ⟨g0, g1, g2, g3, g4, g5, g6, g7, g8, gf, _, _, _, _, _, _, _⟩ := HX11.out.un.gm
          obtain ⟨_, u0, u1, u2, u3, u4, _, _, _, _⟩ := HX11.out.un
          simp only at u0 u1 u2 u3 u4
          clear HX11 hbs
          go_wp2_with (simp only [kc])
          go_ret
          exact ⟨_, rfl, HF.out⟩
  · have hq : q.side = 0 := by rw [HW.out.qs, hs]; rfl
    have HO : setF (putF (cutF (sqF q.cells 1) mb) ma) = setF (sqF p.cells 1) := by have h := HW.out.back_own; rw [hs] at h; exact h
    have HO2 : (tk = 0 → setF (sqF q.cells 0) = setF (sqF p.cells 0)) ∧ (tk ≠ 0 → setF (putF (sqF q.cells 0) mb) = setF (sqF p.cells 0)) := by have h := HW.out.back_oth; rw [hs, show ((1 : Int) - 1) = 0 from rfl] at h; exact h
    have HW1 := Aside0.mk (fun V => without_c (sqF q.cells 1) mb hb V)
    have HW2 := Aside0.mk (fun V => with_c (cutF (sqF q.cells 1) mb) ma ha V)
    have HW3 := Aside0.mk (fun V => with_c (sqF q.cells 0) mb hb V)
    rw [HO] at HW2
    have HO3 := Aside0.mk HO2
    have HQS := Aside0.mk hq
    have HS := Aside0.mk hs
    clear HO HO2 hq hs ha hb HW
    unfold setF at HW1 HW2 HW3 HO3
    generalize loB (putF (sqF q.cells 0) mb) = E3 at *
    generalize hiB (putF (sqF q.cells 0) mb) = F3 at *
    generalize loB (cutF (sqF q.cells 1) mb) = E1 at *
    generalize hiB (cutF (sqF q.cells 1) mb) = F1 at *
    generalize loB (sqF q.cells 0) = A0 at *
    generalize hiB (sqF q.cells 0) = B0 at *
    generalize loB (sqF q.cells 1) = C0 at *
    generalize hiB (sqF q.cells 1) = D0 at *
    generalize hA : loB (sqF p.cells 0) = A2 at HW2 HO3
    generalize hB : hiB (sqF p.cells 0) = B2 at HW2 HO3
    generalize hC : loB (sqF p.cells 1) = C2 at HW2 HO3
    generalize hD : hiB (sqF p.cells 1) = D2 at HW2 HO3
    have HA := Aside0.mk hA
    have HBB := Aside0.mk hB
    have HC := Aside0.mk hC
    have HD := Aside0.mk hD
    clear hA hB hC hD
    obtain ⟨g0, g1, g2, g3, g4, g5, g6, g7, g8, gf, _, _, _, _, _, _, _⟩ := HB2.out.un.gm
    obtain ⟨_, u0, u1, u2, u3, u4, _, _, _, _⟩ := HB2.out.un
    simp only at u0 u1 u2 u3 u4
    rw [HQS.out] at g2
    have gn1 : gb ≠ ub := by have := HB2.out.un.low; have := HB2.out.un.uge; omega
    have gn2 : ub ≠ gb := fun h => gn1 h.symm
    have HX5 := Aside0.mk HB2.out.drew
    clear HB2
    go_wp2_with fail
    refine wp_region_held_drew (S := (fun V => V.cell? ⟨ub, 0, none⟩ = some (.int .i64 (ma : Int)) ∧ V.cell? ⟨ub, 1, none⟩ = some (.int .i64 (mb : Int)))) (by kernel_rfl) ?_ (fun hHeld => ?_)
    · (try dsimp only)
      go_keep
    refine wpAnyH_take (i := 0) (v := ?_) rfl (by kernel_rfl) (by kernel_rfl) (by kernel_rfl) (fun _ _ _ h => h) (Or.inl ⟨by rfl, ?_⟩) (by assumption) ?_
    rotate_left
    · (intro w hSw; (try dsimp only at hSw); go_simp); (try with_reducible rfl)
    (try simp only [Act.put, List.setIfInBounds_toArray, List.set_cons_zero, List.set_cons_succ])
    refine wpAnyH_take (i := 1) (v := ?_) rfl (by kernel_rfl) (by kernel_rfl) (by kernel_rfl) (fun _ _ _ h => h) (Or.inl ⟨by rfl, ?_⟩) (by assumption) ?_
    rotate_left
    · (intro w hSw; (try dsimp only at hSw); go_simp); (try with_reducible rfl)
    (try simp only [Act.put, List.setIfInBounds_toArray, List.set_cons_zero, List.set_cons_succ])
    refine wpAnyH_take (i := 2) (v := ?_) rfl (by kernel_rfl) (by kernel_rfl) (by kernel_rfl) (fun _ _ _ h => h) (Or.inl ⟨by rfl, ?_⟩) (by assumption) ?_
    rotate_left
    · (intro w hSw; (try dsimp only at hSw); go_simp); (try with_reducible rfl)
    (try simp only [Act.put, List.setIfInBounds_toArray, List.set_cons_zero, List.set_cons_succ])
    refine wpAnyH_take (i := 3) (v := ?_) rfl (by kernel_rfl) (by kernel_rfl) (by kernel_rfl) (fun _ _ _ h => h) (Or.inl ⟨by rfl, ?_⟩) (by assumption) ?_
    rotate_left
    · (intro w hSw; (try dsimp only at hSw); go_simp); (try with_reducible rfl)
    (try simp only [Act.put, List.setIfInBounds_toArray, List.set_cons_zero, List.set_cons_succ])
    refine wpAnyH_take (i := 4) (v := ?_) rfl (by kernel_rfl) (by kernel_rfl) (by kernel_rfl) (fun _ _ _ h => h) (Or.inl ⟨by rfl, ?_⟩) (by assumption) ?_
    rotate_left
    · (intro w hSw; (try dsimp only at hSw); go_simp); (try with_reducible rfl)
    (try simp only [Act.put, List.setIfInBounds_toArray, List.set_cons_zero, List.set_cons_succ])
    refine wpAnyH_take (i := 5) (v := ?_) rfl (by kernel_rfl) (by kernel_rfl) (by kernel_rfl) (fun _ _ _ h => h) (Or.inl ⟨by rfl, ?_⟩) (by assumption) ?_
    rotate_left
    · (intro w hSw; (try dsimp only at hSw); go_simp); (try with_reducible rfl)
    (try simp only [Act.put, List.setIfInBounds_toArray, List.set_cons_zero, List.set_cons_succ])
    refine wpAnyH_take (i := 6) (v := ?_) rfl (by kernel_rfl) (by kernel_rfl) (by kernel_rfl) (fun _ _ _ h => h) (Or.inl ⟨by rfl, ?_⟩) (by assumption) ?_
    rotate_left
    · (intro w hSw; (try dsimp only at hSw); go_simp); (try with_reducible rfl)
    (try simp only [Act.put, List.setIfInBounds_toArray, List.set_cons_zero, List.set_cons_succ])
    refine wpAnyH_take (i := 8) (v := ?_) rfl (by kernel_rfl) (by kernel_rfl) (by kernel_rfl) (fun _ _ _ h => h) (Or.inl ⟨by rfl, ?_⟩) (by assumption) ?_
    rotate_left
    · (intro w hSw; (try dsimp only at hSw); go_simp); (try with_reducible rfl)
    (try simp only [Act.put, List.setIfInBounds_toArray, List.set_cons_zero, List.set_cons_succ])
    refine wpAnyH_take (i := 9) (v := ?_) rfl (by kernel_rfl) (by kernel_rfl) (by kernel_rfl) (fun _ _ _ h => h) (Or.inl ⟨by rfl, ?_⟩) (by assumption) ?_
    rotate_left
    · (intro w hSw; (try dsimp only at hSw); go_simp); (try with_reducible rfl)
    (try simp only [Act.put, List.setIfInBounds_toArray, List.set_cons_zero, List.set_cons_succ])
    refine wpAnyH_take (i := 10) (v := ?_) rfl (by kernel_rfl) (by kernel_rfl) (by kernel_rfl) (fun _ _ _ h => h) (Or.inl ⟨by rfl, ?_⟩) (by assumption) ?_
    rotate_left
    · (intro w hSw; (try dsimp only at hSw); go_simp); (try with_reducible rfl)
    (try simp only [Act.put, List.setIfInBounds_toArray, List.set_cons_zero, List.set_cons_succ])
    refine wpAnyH_take (i := 12) (v := ?_) rfl (by kernel_rfl) (by kernel_rfl) (by kernel_rfl) (fun _ _ _ h => h) (Or.inl ⟨by rfl, ?_⟩) (by assumption) ?_
    rotate_left
    · (intro w hSw; (try dsimp only at hSw); go_simp); (try with_reducible rfl)
    (try simp only [Act.put, List.setIfInBounds_toArray, List.set_cons_zero, List.set_cons_succ])
    refine wpAnyH_take (i := 13) (v := ?_) rfl (by kernel_rfl) (by kernel_rfl) (by kernel_rfl) (fun _ _ _ h => h) (Or.inl ⟨by rfl, ?_⟩) (by assumption) ?_
    rotate_left
    · (intro w hSw; (try dsimp only at hSw); go_simp); (try with_reducible rfl)
    (try simp only [Act.put, List.setIfInBounds_toArray, List.set_cons_zero, List.set_cons_succ])
    refine wpAnyH_take (i := 14) (v := ?_) rfl (by kernel_rfl) (by kernel_rfl) (by kernel_rfl) (fun _ _ _ h => h) (Or.inl ⟨by rfl, ?_⟩) (by assumption) ?_
    rotate_left
    · (intro w hSw; (try dsimp only at hSw); go_simp); (try with_reducible rfl)
    (try simp only [Act.put, List.setIfInBounds_toArray, List.set_cons_zero, List.set_cons_succ])
    refine wpAnyH_take (i := 16) (v := ?_) rfl (by kernel_rfl) (by kernel_rfl) (by kernel_rfl) (fun _ _ _ h => h) (Or.inl ⟨by rfl, ?_⟩) (by assumption) ?_
    rotate_left
    · (intro w hSw; (try dsimp only at hSw); go_simp); (try with_reducible rfl)
    (try simp only [Act.put, List.setIfInBounds_toArray, List.set_cons_zero, List.set_cons_succ])
    refine wpAnyH_take (i := 17) (v := ?_) rfl (by kernel_rfl) (by kernel_rfl) (by kernel_rfl) (fun _ _ _ h => h) (Or.inl ⟨by rfl, ?_⟩) (by assumption) ?_
    rotate_left
    · (intro w hSw; (try dsimp only at hSw); go_simp); (try with_reducible rfl)
    (try simp only [Act.put, List.setIfInBounds_toArray, List.set_cons_zero, List.set_cons_succ])
    refine wpAnyH_ready (rs := [7]) (by kernel_rfl) (by simp) ?_
    refine AllReadyH.cons rfl (fun K hK => ?_) AllReadyH.nil
    go_simp
    refine hK.out _ _ ?_ (fun hHeld2 => ?_)
    · (try dsimp only)
      go_keep
    clear hK K
    (try simp only [Act.put, List.setIfInBounds_toArray, List.set_cons_zero, List.set_cons_succ])
    refine wpAnyH_ready (rs := [11]) (by kernel_rfl) (by simp) ?_
    refine AllReadyH.cons rfl (fun K hK => ?_) AllReadyH.nil
    (go_simp; go_at_call 65; (with_reducible refine (HW1.out _).mono ?_); rintro e w6 ⟨rfl, hb⟩; have HX6 := Aside0.mk (HX5.out.below hb); clear HX5 hb g0 g1 g2 g3 g4 g5 g6 g7 g8 gf u0 u1 u2 u3 u4; obtain ⟨g0, g1, g2, g3, g4, g5, g6, g7, g8, gf, _, _, _, _, _, _, _⟩ := HX6.out.un.gm; obtain ⟨_, u0, u1, u2, u3, u4, _, _, _, _⟩ := HX6.out.un; simp only at u0 u1 u2 u3 u4; (try go_wp2_with fail))
    refine hK.out _ _ ?_ (fun hHeld3 => ?_)
    · (try dsimp only)
      go_keep
    clear hK K
    (try simp only [Act.put, List.setIfInBounds_toArray, List.set_cons_zero, List.set_cons_succ])
    refine wpAnyH_ready (rs := [15]) (by kernel_rfl) (by simp) ?_
    refine AllReadyH.cons rfl (fun K hK => ?_) AllReadyH.nil
    (go_simp; go_at_call 66; (with_reducible refine (HW2.out _).mono ?_); rintro e w7 ⟨rfl, hb⟩; have HX7 := Aside0.mk (HX6.out.below hb); clear HX6 hb g0 g1 g2 g3 g4 g5 g6 g7 g8 gf u0 u1 u2 u3 u4; obtain ⟨g0, g1, g2, g3, g4, g5, g6, g7, g8, gf, _, _, _, _, _, _, _⟩ := HX7.out.un.gm; obtain ⟨_, u0, u1, u2, u3, u4, _, _, _, _⟩ := HX7.out.un; simp only at u0 u1 u2 u3 u4; (try go_wp2_with fail))
    refine hK.out _ _ ?_ (fun hHeld4 => ?_)
    · (try dsimp only)
      go_keep
    clear hK K
    (try simp only [Act.put, List.setIfInBounds_toArray, List.set_cons_zero, List.set_cons_succ])
    refine wpAnyH_take (i := 18) (v := ?_) rfl (by kernel_rfl) (by kernel_rfl) (by kernel_rfl) (fun _ _ _ h => h) (Or.inl ⟨by rfl, ?_⟩) (by assumption) ?_
    rotate_left
    · (intro w hSw; (try dsimp only at hSw); go_simp); (try with_reducible rfl)
    (try simp only [Act.put, List.setIfInBounds_toArray, List.set_cons_zero, List.set_cons_succ])
    refine wpAnyH_ready (rs := [19]) (by kernel_rfl) (by simp) ?_
    refine AllReadyH.cons rfl (fun K hK => ?_) AllReadyH.nil
    go_simp
    refine hK.out _ _ ?_ (fun hHeld5 => ?_)
    · (try dsimp only)
      go_keep
    clear hK K
    (try simp only [Act.put, List.setIfInBounds_toArray, List.set_cons_zero, List.set_cons_succ])
    refine wpAnyH_done (by kernel_rfl) ?_ _
    all_goals
      have HX8 := Aside0.mk (HX7.out.setBlack C2 D2)
      clear HX7 g0 g1 g2 g3 g4 g5 g6 g7 g8 gf u0 u1 u2 u3 u4
      generalize (w7.setCell ⟨gb, 7, none⟩ (.int .u64 (C2 : Int))).setCell ⟨gb, 8, none⟩ (.int .u64 (D2 : Int)) = W11 at *
      by_cases htk : tk = 0
      case pos =>
        obtain ⟨rfl, rfl⟩ := setV_inj (HO3.out.1 htk)
        have hbs := HX8.out.bt
        have kc := bytes_string hbs 94 Tryz.underlying94 (cap := yc)
        rw [HL2.out, show (((bytesOf q.cells).set ma (x : Int)).set mb 46) = (((bytesOf q.cells).set ma (x : Int)).set mb (if tk = 0 then 46 else (tk : Int))) by rw [if_pos htk], HBK2.out] at kc
        have HF := Aside0.mk (HX8.out.fin (p := p) HA.out HBB.out HC.out HD.out)
        rw [HS.out, ← HCK.out, ← HFL.out] at HF
        obtain ⟨g0, g1, g2, g3, g4, g5, g6, g7, g8, gf, _, _, _, _, _, _, _⟩ := HX8.out.un.gm
        obtain ⟨_, u0, u1, u2, u3, u4, _, _, _, _⟩ := HX8.out.un
        simp only at u0 u1 u2 u3 u4
        have hb0 : ((tk : Int) != 0) = false := by simp [htk]
        have hb1 : ((tk : Int) == 0) = true := by simp [htk]
        clear HX8 hbs
        go_wp2_with (simp only [kc])
        go_ret
        exact ⟨_, rfl, HF.out⟩
      case neg =>
        rw [HO3.out.2 htk] at HW3
        obtain ⟨ky, fy⟩ := HX8.out.bt mb (by rw [HL2.out, HSZ.out]; omega)
        generalize (((bytesOf q.cells).set ma (x : Int)).set mb 46).getD mb 0 = xq at *
        obtain ⟨g0, g1, g2, g3, g4, g5, g6, g7, g8, gf, _, _, _, _, _, _, _⟩ := HX8.out.un.gm
        obtain ⟨_, u0, u1, u2, u3, u4, _, _, _, _⟩ := HX8.out.un
        simp only at u0 u1 u2 u3 u4
        have hb0 : ((tk : Int) != 0) = true := by simp [htk]
        have hb1 : ((tk : Int) == 0) = false := by simp [htk]
        have HTK := Aside0.mk htk
        clear htk
        go_wp2_with fail
        have HX9 := Aside0.mk ((HX8.out.put mb (tk : Int)).drew)
        have HX9' := Aside0.mk (HX8.out.put mb (tk : Int))
        clear HX8 g0 g1 g2 g3 g4 g5 g6 g7 g8 gf u0 u1 u2 u3 u4 ky fy
        generalize W11.setCell ⟨yb, mb, none⟩ (.int .u8 (tk : Int)) = W12 at *
        obtain ⟨g0, g1, g2, g3, g4, g5, g6, g7, g8, gf, _, _, _, _, _, _, _⟩ := HX9'.out.un.gm
        obtain ⟨_, u0, u1, u2, u3, u4, _, _, _, _⟩ := HX9'.out.un
        simp only at u0 u1 u2 u3 u4
        clear HX9'
        refine wp_region_held_drew (S := (fun V => V.cell? ⟨ub, 0, none⟩ = some (.int .i64 (ma : Int)) ∧ V.cell? ⟨ub, 1, none⟩ = some (.int .i64 (mb : Int)))) (by kernel_rfl) ?_ (fun hHeld => ?_)
        · (try dsimp only)
          go_keep
        refine wpAnyH_take (i := 0) (v := ?_) rfl (by kernel_rfl) (by kernel_rfl) (by kernel_rfl) (fun _ _ _ h => h) (Or.inl ⟨by rfl, ?_⟩) (by assumption) ?_
        rotate_left
        · (intro w hSw; (try dsimp only at hSw); go_simp); (try with_reducible rfl)
        (try simp only [Act.put, List.setIfInBounds_toArray, List.set_cons_zero, List.set_cons_succ])
        refine wpAnyH_take (i := 1) (v := ?_) rfl (by kernel_rfl) (by kernel_rfl) (by kernel_rfl) (fun _ _ _ h => h) (Or.inl ⟨by rfl, ?_⟩) (by assumption) ?_
        rotate_left
        · (intro w hSw; (try dsimp only at hSw); go_simp); (try with_reducible rfl)
        (try simp only [Act.put, List.setIfInBounds_toArray, List.set_cons_zero, List.set_cons_succ])
        refine wpAnyH_take (i := 2) (v := ?_) rfl (by kernel_rfl) (by kernel_rfl) (by kernel_rfl) (fun _ _ _ h => h) (Or.inl ⟨by rfl, ?_⟩) (by assumption) ?_
        rotate_left
        · (intro w hSw; (try dsimp only at hSw); go_simp); (try with_reducible rfl)
        (try simp only [Act.put, List.setIfInBounds_toArray, List.set_cons_zero, List.set_cons_succ])
        refine wpAnyH_take (i := 3) (v := ?_) rfl (by kernel_rfl) (by kernel_rfl) (by kernel_rfl) (fun _ _ _ h => h) (Or.inl ⟨by rfl, ?_⟩) (by assumption) ?_
        rotate_left
        · (intro w hSw; (try dsimp only at hSw); go_simp); (try with_reducible rfl)
        (try simp only [Act.put, List.setIfInBounds_toArray, List.set_cons_zero, List.set_cons_succ])
        refine wpAnyH_take (i := 4) (v := ?_) rfl (by kernel_rfl) (by kernel_rfl) (by kernel_rfl) (fun _ _ _ h => h) (Or.inl ⟨by rfl, ?_⟩) (by assumption) ?_
        rotate_left
        · (intro w hSw; (try dsimp only at hSw); go_simp); (try with_reducible rfl)
        (try simp only [Act.put, List.setIfInBounds_toArray, List.set_cons_zero, List.set_cons_succ])
        refine wpAnyH_take (i := 5) (v := ?_) rfl (by kernel_rfl) (by kernel_rfl) (by kernel_rfl) (fun _ _ _ h => h) (Or.inl ⟨by rfl, ?_⟩) (by assumption) ?_
        rotate_left
        · (intro w hSw; (try dsimp only at hSw); go_simp); (try with_reducible rfl)
        (try simp only [Act.put, List.setIfInBounds_toArray, List.set_cons_zero, List.set_cons_succ])
        refine wpAnyH_take (i := 6) (v := ?_) rfl (by kernel_rfl) (by kernel_rfl) (by kernel_rfl) (fun _ _ _ h => h) (Or.inl ⟨by rfl, ?_⟩) (by assumption) ?_
        rotate_left
        · (intro w hSw; (try dsimp only at hSw); go_simp); (try with_reducible rfl)
        (try simp only [Act.put, List.setIfInBounds_toArray, List.set_cons_zero, List.set_cons_succ])
        refine wpAnyH_take (i := 7) (v := ?_) rfl (by kernel_rfl) (by kernel_rfl) (by kernel_rfl) (fun _ _ _ h => h) (Or.inl ⟨by rfl, ?_⟩) (by assumption) ?_
        rotate_left
        · (intro w hSw; (try dsimp only at hSw); go_simp); (try with_reducible rfl)
        (try simp only [Act.put, List.setIfInBounds_toArray, List.set_cons_zero, List.set_cons_succ])
        refine wpAnyH_take (i := 8) (v := ?_) rfl (by kernel_rfl) (by kernel_rfl) (by kernel_rfl) (fun _ _ _ h => h) (Or.inl ⟨by rfl, ?_⟩) (by assumption) ?_
        rotate_left
        · (intro w hSw; (try dsimp only at hSw); go_simp); (try with_reducible rfl)
        (try simp only [Act.put, List.setIfInBounds_toArray, List.set_cons_zero, List.set_cons_succ])
        refine wpAnyH_take (i := 10) (v := ?_) rfl (by kernel_rfl) (by kernel_rfl) (by kernel_rfl) (fun _ _ _ h => h) (Or.inl ⟨by rfl, ?_⟩) (by assumption) ?_
        rotate_left
        · (intro w hSw; (try dsimp only at hSw); go_simp); (try with_reducible rfl)
        (try simp only [Act.put, List.setIfInBounds_toArray, List.set_cons_zero, List.set_cons_succ])
        refine wpAnyH_take (i := 11) (v := ?_) rfl (by kernel_rfl) (by kernel_rfl) (by kernel_rfl) (fun _ _ _ h => h) (Or.inl ⟨by rfl, ?_⟩) (by assumption) ?_
        rotate_left
        · (intro w hSw; (try dsimp only at hSw); go_simp); (try with_reducible rfl)
        (try simp only [Act.put, List.setIfInBounds_toArray, List.set_cons_zero, List.set_cons_succ])
        refine wpAnyH_take (i := 12) (v := ?_) rfl (by kernel_rfl) (by kernel_rfl) (by kernel_rfl) (fun _ _ _ h => h) (Or.inl ⟨by rfl, ?_⟩) (by assumption) ?_
        rotate_left
        · (intro w hSw; (try dsimp only at hSw); go_simp); (try with_reducible rfl)
        (try simp only [Act.put, List.setIfInBounds_toArray, List.set_cons_zero, List.set_cons_succ])
        refine wpAnyH_take (i := 14) (v := ?_) rfl (by kernel_rfl) (by kernel_rfl) (by kernel_rfl) (fun _ _ _ h => h) (Or.inl ⟨by rfl, ?_⟩) (by assumption) ?_
        rotate_left
        · (intro w hSw; (try dsimp only at hSw); go_simp); (try with_reducible rfl)
        (try simp only [Act.put, List.setIfInBounds_toArray, List.set_cons_zero, List.set_cons_succ])
        refine wpAnyH_take (i := 15) (v := ?_) rfl (by kernel_rfl) (by kernel_rfl) (by kernel_rfl) (fun _ _ _ h => h) (Or.inl ⟨by rfl, ?_⟩) (by assumption) ?_
        rotate_left
        · (intro w hSw; (try dsimp only at hSw); go_simp); (try with_reducible rfl)
        (try simp only [Act.put, List.setIfInBounds_toArray, List.set_cons_zero, List.set_cons_succ])
        refine wpAnyH_ready (rs := [9]) (by kernel_rfl) (by simp) ?_
        refine AllReadyH.cons rfl (fun K hK => ?_) AllReadyH.nil
        go_simp
        refine hK.out _ _ ?_ (fun hHeld2 => ?_)
        · (try dsimp only)
          go_keep
        clear hK K
        (try simp only [Act.put, List.setIfInBounds_toArray, List.set_cons_zero, List.set_cons_succ])
        refine wpAnyH_ready (rs := [13]) (by kernel_rfl) (by simp) ?_
        refine AllReadyH.cons rfl (fun K hK => ?_) AllReadyH.nil
        (go_simp; go_at_call 66; (with_reducible refine (HW3.out _).mono ?_); rintro e w10 ⟨rfl, hb⟩; have HX10 := Aside0.mk (HX9.out.below hb); clear HX9 hb g0 g1 g2 g3 g4 g5 g6 g7 g8 gf u0 u1 u2 u3 u4; obtain ⟨g0, g1, g2, g3, g4, g5, g6, g7, g8, gf, _, _, _, _, _, _, _⟩ := HX10.out.un.gm; obtain ⟨_, u0, u1, u2, u3, u4, _, _, _, _⟩ := HX10.out.un; simp only at u0 u1 u2 u3 u4; (try go_wp2_with fail))
        refine hK.out _ _ ?_ (fun hHeld3 => ?_)
        · (try dsimp only)
          go_keep
        clear hK K
        (try simp only [Act.put, List.setIfInBounds_toArray, List.set_cons_zero, List.set_cons_succ])
        refine wpAnyH_take (i := 16) (v := ?_) rfl (by kernel_rfl) (by kernel_rfl) (by kernel_rfl) (fun _ _ _ h => h) (Or.inl ⟨by rfl, ?_⟩) (by assumption) ?_
        rotate_left
        · (intro w hSw; (try dsimp only at hSw); go_simp); (try with_reducible rfl)
        (try simp only [Act.put, List.setIfInBounds_toArray, List.set_cons_zero, List.set_cons_succ])
        refine wpAnyH_ready (rs := [17]) (by kernel_rfl) (by simp) ?_
        refine AllReadyH.cons rfl (fun K hK => ?_) AllReadyH.nil
        go_simp
        refine hK.out _ _ ?_ (fun hHeld4 => ?_)
        · (try dsimp only)
          go_keep
        clear hK K
        (try simp only [Act.put, List.setIfInBounds_toArray, List.set_cons_zero, List.set_cons_succ])
        refine wpAnyH_done (by kernel_rfl) ?_ _
        all_goals
          have HX11 := Aside0.mk (HX10.out.setRed A2 B2)
          clear HX10 g0 g1 g2 g3 g4 g5 g6 g7 g8 gf u0 u1 u2 u3 u4
          generalize (w10.setCell ⟨gb, 5, none⟩ (.int .u64 (A2 : Int))).setCell ⟨gb, 6, none⟩ (.int .u64 (B2 : Int)) = W13 at *
          have hbs := HX11.out.bt
          have kc := bytes_string hbs 94 Tryz.underlying94 (cap := yc)
          rw [HL3.out, show ((((bytesOf q.cells).set ma (x : Int)).set mb 46).set mb (tk : Int)) = (((bytesOf q.cells).set ma (x : Int)).set mb (if tk = 0 then 46 else (tk : Int))) by rw [if_neg HTK.out, List.set_set], HBK2.out] at kc
          have HF := Aside0.mk (HX11.out.fin (p := p) HA.out HBB.out HC.out HD.out)
          rw [HS.out, ← HCK.out, ← HFL.out] at HF
          obtain ⟨g0, g1, g2, g3, g4, g5, g6, g7, g8, gf, _, _, _, _, _, _, _⟩ := HX11.out.un.gm
          obtain ⟨_, u0, u1, u2, u3, u4, _, _, _, _⟩ := HX11.out.un
          simp only at u0 u1 u2 u3 u4
          clear HX11 hbs
          go_wp2_with (simp only [kc])
          go_ret
          exact ⟨_, rfl, HF.out⟩
end Go.Proofs.YtgmlojocafepiaaGreatDoor.K

/- Walks: what a game shows. -/
namespace Go.Proofs.YtgmlojocafepiaaGreatDoor.K
open Go.RowKit Go.Lib Go.Proofs.YtgmlojocafepiaaGreatDoorW.PrintWords Go.Proofs.YtgmlojocafepiaaGreatDoor.Sp
set_option linter.unusedVariables false
set_option linter.unusedSimpArgs false
set_option maxRecDepth 100000 in
set_option maxHeartbeats 1000000 in
theorem gpos_c {W : World} {S : Nat → Prop} {gb pb : Nat} {sv : Value} {now : Pos} {a b c d : Nat} {us : List Und} (h : GmZ W S gb pb sv now a b c d us) : Calls Tryz.prog 28 #[.pointer (some ⟨gb, 0, none⟩)] W fun e w' => e = .returned (posV now) ∧ Below W.heap.size W w' := by
  have hu := Tryz.underlying23
  obtain ⟨g0, g1, g2, g3, g4, _, _, _, _, gf, p0, pf, _, _, _, _, _⟩ := h
  have nl5 : gb < W.heap.size := World.block_lt_of_cell? _ _ g0
  go_enter Tryz.func28, Tryz.ntmps28
  go_wp2_with fail
  refine bodyPost_ret (by simp [results, Tryz.results28, go_sem, g1, g2, g3, g4]; try rfl) rfl ?_
  exact ⟨rfl, by (repeat' (first | (with_reducible exact Below.refl _ _) | (with_reducible refine pw_below_drewN ?_ _) | (with_reducible refine below_alloc ?_ _) | (with_reducible refine Below.drew ?_) | (with_reducible refine Below.setCell ?_ ?_ _) | (simp; done)))⟩
set_option maxRecDepth 100000 in
set_option maxHeartbeats 1000000 in
theorem pplies_c (W : World) (pb n cap : Nat) (A : Option Addr) (p0 : W.cell? ⟨pb, 0, none⟩ = some (.slice A n cap)) : Calls Tryz.prog 68 #[.pointer (some ⟨pb, 0, none⟩)] W fun e w' => e = .returned (.int .i64 (n : Int)) ∧ w' = W := by
  go_enter Tryz.func68, Tryz.ntmps68
  go_wp2_with fail
  go_ret
  exact ⟨rfl, rfl⟩
set_option maxRecDepth 100000 in
set_option maxHeartbeats 1000000 in
theorem gplies_c {W : World} {S : Nat → Prop} {gb pb : Nat} {sv : Value} {now : Pos} {a b c d : Nat} {us : List Und} (h : GmZ W S gb pb sv now a b c d us) : Calls Tryz.prog 29 #[.pointer (some ⟨gb, 0, none⟩)] W fun e w' => e = .returned (.int .i64 (us.length : Int)) ∧ w' = W := by
  obtain ⟨A, cap, rfl⟩ := row_form h.row
  have HP := Aside0.mk (pplies_c W pb us.length cap A h.p0)
  have g0 := h.g0
  clear h
  go_enter Tryz.func29, Tryz.ntmps29
  go_wp2_with (go_at_call 68; refine HP.out.mono ?_; rintro e w1 ⟨rfl, rfl⟩)
  go_ret
  exact ⟨rfl, rfl⟩
/-! ### A game that is none -/
set_option maxRecDepth 100000 in
set_option maxHeartbeats 1000000 in
theorem npos_c (W : World) : Calls Tryz.prog 28 #[.pointer none] W fun e w' => e = .returned (posV zeroP) ∧ Below W.heap.size W w' := by
  have hu := Tryz.underlying23
  go_enter Tryz.func28, Tryz.ntmps28
  go_wp2_with fail
  refine bodyPost_ret (by simp [results, Tryz.results28, go_sem]; try rfl) rfl ?_
  exact ⟨rfl, by (repeat' (first | (with_reducible exact Below.refl _ _) | (with_reducible refine pw_below_drewN ?_ _) | (with_reducible refine below_alloc ?_ _) | (with_reducible refine Below.drew ?_) | (with_reducible refine Below.setCell ?_ ?_ _) | (simp; done)))⟩
set_option maxRecDepth 100000 in
set_option maxHeartbeats 1000000 in
theorem nplies_c (W : World) : Calls Tryz.prog 29 #[.pointer none] W fun e w' => e = .returned (.int .i64 0) ∧ w' = W := by
  go_enter Tryz.func29, Tryz.ntmps29
  go_wp2_with fail
  go_ret
  exact ⟨rfl, rfl⟩
set_option maxRecDepth 100000 in
set_option maxHeartbeats 1000000 in
theorem npast_c (W : World) : Calls Tryz.prog 31 #[.pointer none] W fun e w' => e = .returned (.slice none 0 0) ∧ w' = W := by
  go_enter Tryz.func31, Tryz.ntmps31
  go_wp2_with fail
  go_ret
  exact ⟨rfl, rfl⟩
set_option maxRecDepth 100000 in
set_option maxHeartbeats 1000000 in
theorem ncopy_c (W : World) : Calls Tryz.prog 36 #[.pointer none] W fun e w' => e = .returned (.pointer none) ∧ w' = W := by
  go_enter Tryz.func36, Tryz.ntmps36
  go_wp2_with fail
  go_ret
  exact ⟨rfl, rfl⟩
set_option maxRecDepth 100000 in
set_option maxHeartbeats 1000000 in
theorem nunmake_c (W : World) : Calls Tryz.prog 23 #[.pointer none] W fun e w' => e = .returned (.int .i64 1) ∧ w' = W := by
  go_enter Tryz.func23, Tryz.ntmps23
  go_wp2_with fail
  go_ret
  exact ⟨rfl, rfl⟩
set_option maxRecDepth 100000 in
set_option maxHeartbeats 1000000 in
theorem nmake_c (m : Mvi) (W : World) : Calls Tryz.prog 25 #[.pointer none, mviV m] W fun e w' => e = .returned (.int .i64 1) ∧ Below W.heap.size W w' := by
  have hu2 := Tryz.underlying32
  go_enter Tryz.func25, Tryz.ntmps25
  go_wp2_with fail
  go_ret
  exact ⟨rfl, by (repeat' (first | (with_reducible exact Below.refl _ _) | (with_reducible refine pw_below_drewN ?_ _) | (with_reducible refine below_alloc ?_ _) | (with_reducible refine Below.drew ?_) | (with_reducible refine Below.setCell ?_ ?_ _) | (simp; done)))⟩
set_option maxRecDepth 100000 in
set_option maxHeartbeats 1000000 in
theorem npieces_c (W : World) : Calls Tryz.prog 33 #[.pointer none, .int .i64 0] W fun e w' => e = .returned (.slice none 0 0) ∧ w' = W := by
  go_enter Tryz.func33, Tryz.ntmps33
  go_wp2_with fail
  go_ret
  exact ⟨rfl, rfl⟩
/-! ### The pieces -/
set_option maxRecDepth 100000 in
set_option maxHeartbeats 1000000 in
theorem gpieces0_c {W : World} {S : Nat → Prop} {gb pb : Nat} {sv : Value} {now : Pos} {us : List Und} (h : GmX W S gb pb sv now us) (hT : TabW W) (hb : isBoard now.cells = true) : Calls Tryz.prog 33 #[.pointer (some ⟨gb, 0, none⟩), .int .i64 0] W fun e w' => ∃ v, e = .returned v ∧ OwnZ w' W.heap.size v (ints (piecesS now.cells 0)) ∧ Below W.heap.size W w' := by
  have HL := Aside0.mk (list_c (sqF now.cells 0) W hT)
  rw [sq_pieces hb 0 (by omega)] at HL
  unfold setF at HL
  obtain ⟨g0, _, _, _, _, g5, g6, _, _, _, _, _, _, _, _, _, _⟩ := h
  generalize loB (sqF now.cells 0) = x at *
  generalize hiB (sqF now.cells 0) = y at *
  clear hT hb
  go_enter Tryz.func33, Tryz.ntmps33
  go_wp2_with (go_at_call 70; refine HL.out.mono ?_; rintro e w1 ⟨v, rfl, ho, hb⟩)
  go_ret
  exact ⟨_, rfl, ho, hb⟩
set_option maxRecDepth 100000 in
set_option maxHeartbeats 1000000 in
theorem gpieces1_c {W : World} {S : Nat → Prop} {gb pb : Nat} {sv : Value} {now : Pos} {us : List Und} (h : GmX W S gb pb sv now us) (hT : TabW W) (hb : isBoard now.cells = true) : Calls Tryz.prog 33 #[.pointer (some ⟨gb, 0, none⟩), .int .i64 1] W fun e w' => ∃ v, e = .returned v ∧ OwnZ w' W.heap.size v (ints (piecesS now.cells 1)) ∧ Below W.heap.size W w' := by
  have HL := Aside0.mk (list_c (sqF now.cells 1) W hT)
  rw [sq_pieces hb 1 (by omega)] at HL
  unfold setF at HL
  obtain ⟨g0, _, _, _, _, _, _, g7, g8, _, _, _, _, _, _, _, _⟩ := h
  generalize loB (sqF now.cells 1) = x at *
  generalize hiB (sqF now.cells 1) = y at *
  clear hT hb
  go_enter Tryz.func33, Tryz.ntmps33
  go_wp2_with (go_at_call 70; refine HL.out.mono ?_; rintro e w1 ⟨v, rfl, ho, hb⟩)
  go_ret
  exact ⟨_, rfl, ho, hb⟩
end Go.Proofs.YtgmlojocafepiaaGreatDoor.K

/- Walks: a game's past. -/
namespace Go.Proofs.YtgmlojocafepiaaGreatDoor.K
open Go.RowKit Go.Lib Go.Proofs.YtgmlojocafepiaaGreatDoorW.PrintWords Go.Proofs.YtgmlojocafepiaaGreatDoor.Sp
set_option linter.unusedVariables false
set_option linter.unusedSimpArgs false
theorem info_mvA : (Tryz.prog.info? 32).map (fun i => (i.zero, i.size, i.bytes)) = some (some (.agg #[.int .i64 0, .int .i64 0]), 2, 16) := by kernel_rfl
abbrev mvU (us : List Und) : List Mv := us.map Und.mv
theorem two_news (w : World) (A B : Obj) : ((w.alloc A).alloc B).heap[w.heap.size + 1]? = some B := by
  have h := news_own (w.alloc A) B
  rwa [show (w.alloc A).heap.size = w.heap.size + 1 by simp] at h
set_option maxRecDepth 100000 in
set_option maxHeartbeats 4000000 in
theorem pmoves_c {W : World} {S : Nat → Prop} {gb pb : Nat} {sv : Value} {now : Pos} {a b c d : Nat} {us : List Und} (h : GmZ W S gb pb sv now a b c d us) (hl : us.length ≤ 1024) : Calls Tryz.prog 69 #[.pointer (some ⟨pb, 0, none⟩)] W fun e w' => ∃ v, e = .returned v ∧ OwnM w' W.heap.size v (mvU us) ∧ Below W.heap.size W w' := by
  obtain ⟨A, cap, rfl⟩ := row_form h.row
  have HG := Aside0.mk (fun (W' : World) (hb : Below W.heap.size W W') => (h.below hb).row)
  have p0 := h.p0
  have HL := Aside0.mk hl
  obtain ⟨i0, hi0, hx0⟩ := Option.map_eq_some_iff.1 info_mvA
  simp only [Prod.mk.injEq] at hx0
  have HZ := Aside0.mk (And.intro hi0 hx0)
  clear h hl hi0 hx0
  go_enter Tryz.func69, Tryz.ntmps69
  go_wp2_with fail
  go_loopg [3, 11] us.length (fun gg s3 s11 wr => ∃ i : Nat, s11 = .int .i64 (i : Int) ∧ i + gg = us.length ∧ Aside0 (OwnM wr W.heap.size s3 (mvU (us.take i)) ∧ Below W.heap.size W wr))
  case atStart => exact ⟨0, rfl, by omega, ⟨own_nil _ _ _ _, Below.refl _ _⟩⟩
  case round =>
    obtain ⟨i, rfl, hi, HX⟩ := hrel
    cases gk with
    | zero =>
      have hn : ¬ ((i : Int) < (us.length : Int)) := by omega
      have HI := Aside0.mk (show us.take i = us from List.take_of_length_le (by omega))
      rw [HI.out] at HX
      clear hi HI
      go_wp2_with fail
      go_ret
      exact ⟨_, rfl, HX.out.1, HX.out.2⟩
    | succ g =>
      have hn : (i : Int) < (us.length : Int) := by omega
      have hil : i < us.length := by omega
      have hib : (i : Int) ≤ 1024 := by have := HL.out; omega
      have HI := Aside0.mk (show i + 1 + g = us.length by omega)
      have HT := Aside0.mk (show mvU (us.take (i + 1)) = mvU (us.take i) ++ [us[i].mv] by unfold mvU; rw [List.take_succ_eq_append_getElem hil, List.map_append]; rfl)
      have HLN := Aside0.mk (show (mvU (us.take i)).length ≤ 1024 by have := HL.out; simp [mvU]; omega)
      obtain ⟨g1, cap1, hv, hlt⟩ := row_at (HG.out _ HX.out.2) (by omega)
      simp only [Value.slice.injEq, true_and] at hv
      obtain ⟨rfl, rfl⟩ := hv
      obtain ⟨x0, x1, x2, x3, x4⟩ := und_cells (HG.out _ HX.out.2) i hil
      generalize us[i] = u at *
      obtain ⟨⟨ma, mb⟩, tk, ck, fl⟩ := u
      simp only at x0 x1 x2 x3 x4 HT
      generalize mvU (us.take i) = L at *
      clear hi hil
      go_wp2_with (first | (at_builtin; refine hold ?_))
      refine Hold.go ?_
      refine wpList_append_lies _ (by rfl) _ _ _ (by rfl) W.heap.size 32 i0 _ 2 16 Tryz.underlying26 HZ.out.1 HZ.out.2.1 HZ.out.2.2.1 HZ.out.2.2.2 rfl (by omega) _ L.length (flatM L) (by rfl) (HX.out.1.below (below_alloc (below_alloc (Below.refl _ _) _) _)) ⟨wr.heap.size + 1, 0, none⟩ 1 1 (mvC (ma, mb)) (by rfl) (by rfl) (World.news_of_block (cs := #[.int .i64 (ma : Int), .int .i64 (mb : Int)]) (t := 32) (fr := (0, 0)) (two_news _ _ _)) (by simp [Value.oneCell', mvC]) (by omega) (by have := HLN.out; unfold maxLen; omega) (by have := HLN.out; omega) (by have := HX.out.2.size; simp; omega) _ rfl ?_
      intro gg cap2 w1 hown1 hgrow hat hlt1
      have HO1 : Aside0 (OwnM w1 W.heap.size (.slice (some ⟨gg, 0, none⟩) (L.length + 1) cap2) (mvU (us.take (i + 1)))) := ⟨by rw [HT.out]; unfold OwnM; rw [flatM_append, List.length_append]; exact hown1⟩
      have HB1 := Aside0.mk ((below_alloc (below_alloc HX.out.2 (.cells #[.int .i64 (ma : Int), .int .i64 (mb : Int), .int .u8 (tk : Int), .int .i64 ck, .int .i64 fl] 93)) (.cells #[.int .i64 (ma : Int), .int .i64 (mb : Int)] 32)).grown hgrow (by have := HX.out.2.size; simp; omega) (fun k hk => own_base HX.out.1 k hk))
      clear hown1 hgrow hat
      go_wp2_with fail
      go_roundg g
      case measure => omega
      case rel => exact ⟨i + 1, by go_num, HI.out, ⟨HO1.out, HB1.out⟩⟩
set_option maxRecDepth 100000 in
set_option maxHeartbeats 1000000 in
theorem gpast_c {W : World} {S : Nat → Prop} {gb pb : Nat} {sv : Value} {now : Pos} {a b c d : Nat} {us : List Und} (h : GmZ W S gb pb sv now a b c d us) (hl : us.length ≤ 1024) : Calls Tryz.prog 31 #[.pointer (some ⟨gb, 0, none⟩)] W fun e w' => ∃ v, e = .returned v ∧ OwnM w' W.heap.size v (mvU us) ∧ Below W.heap.size W w' := by
  have HM := Aside0.mk (pmoves_c h hl)
  have g0 := h.g0
  clear h hl
  go_enter Tryz.func31, Tryz.ntmps31
  go_wp2_with (go_at_call 69; refine HM.out.mono ?_; rintro e w1 ⟨v, rfl, ho, hb⟩)
  go_ret
  exact ⟨_, rfl, ho, hb⟩
end Go.Proofs.YtgmlojocafepiaaGreatDoor.K

/- The game laws' live. -/
namespace Go.Proofs.YtgmlojocafepiaaGreatDoor.K
open Go.RowKit Go.Lib Go.Proofs.YtgmlojocafepiaaGreatDoorW.PrintWords Go.Proofs.YtgmlojocafepiaaGreatDoor.Sp
set_option linter.unusedVariables false
set_option linter.unusedSimpArgs false
theorem start9_well : wellS startP = 0 := by decide +kernel
theorem zero9_well : wellS zeroP = 1 := by decide +kernel
theorem start9_make : (makeP startP ⟨19, 82⟩).1.side = 1 ∧ (makeP startP ⟨19, 82⟩).2 = (110, 0) ∧ (makeP (makeP startP ⟨19, 82⟩).1 ⟨19, 82⟩).2.2 ≠ 0 := by decide +kernel
theorem start9_pieces : (piecesS startB 0).length = 16 := by decide +kernel
theorem start9_board : isBoard startB = true := by decide +kernel
theorem start9_step : ∃ q, stepMake startP [] ⟨19, 82⟩ = (0, q, [⟨(19, 82), 110, 0, 1⟩]) ∧ q.side = 1 ∧ OkMv startP q (19, 82) 110 ∧ stepMake q [⟨(19, 82), 110, 0, 1⟩] ⟨19, 82⟩ = (7, q, [⟨(19, 82), 110, 0, 1⟩]) := by
  obtain ⟨m1, m2, m3⟩ := start9_make
  rcases hm : makeP startP ⟨19, 82⟩ with ⟨q, c, er⟩
  rw [hm] at m1 m2 m3
  simp only [Prod.mk.injEq] at m1 m2 m3
  obtain ⟨rfl, rfl⟩ := m2
  have hs := (make_err.1 (show (makeP startP ⟨19, 82⟩).2.2 = 0 by rw [hm])).2
  refine ⟨q, ?_, m1, okMv (m := (19, 82)) start9_well hs hm, ?_⟩
  · unfold stepMake
    rw [if_neg (by decide), hm, if_neg (by simp)]
    rfl
  · unfold stepMake
    rw [if_neg (by simp), if_pos m3]
theorem new_start (W : World) (hT : TabW W) : Calls Tryz.prog 21 #[posV startP] W fun e w' => ∃ gb pb, e = .returned (.tuple #[.pointer (some ⟨gb, 0, none⟩), .int .i64 0]) ∧ GmX w' (newIn W w') gb pb (.slice none 0 0) startP [] ∧ Below W.heap.size W w' := by
  refine (gnew_c startP W hT).mono ?_
  intro e w' h
  unfold NewIs at h
  rwa [if_neg (by simp [start9_well])] at h
theorem new_zero (W : World) (hT : TabW W) : Calls Tryz.prog 21 #[posV zeroP] W fun e w' => e = .returned (.tuple #[.pointer none, .int .i64 1]) ∧ Below W.heap.size W w' := by
  refine (gnew_c zeroP W hT).mono ?_
  intro e w' h
  unfold NewIs at h
  rwa [if_pos (by simp [zero9_well]), zero9_well] at h
/-- A game within live. -/
structure L9 (w W : World) (S : Nat → Prop) (gb pb : Nat) (sv : Value) (now : Pos) (us : List Und) : Prop where
  gm : GmX W S gb pb sv now us
  bx : BoxP W w.heap.size startP
  bel : Below w.heap.size w W
  up : ∀ k, S k → w.heap.size < k ∧ k < W.heap.size
/-- A cell outside the game. -/
structure B9 (W : World) (S : Nat → Prop) (b o : Nat) (v : Value) : Prop where
  c : W.cell? ⟨b, o, none⟩ = some v
  n : ¬ S b
section
variable {w W W' : World} {S S' : Nat → Prop} {gb pb b o : Nat} {sv sv' v : Value} {now now' : Pos} {us us' : List Und}
theorem L9.below (h : L9 w W S gb pb sv now us) (hb : Below W.heap.size W W') : L9 w W' S gb pb sv now us :=
  ⟨h.gm.below hb, h.bx.below hb, below_go h.bel hb, fun k hk => ⟨(h.up k hk).1, Nat.lt_of_lt_of_le (h.up k hk).2 hb.size⟩⟩
theorem L9.drew (h : L9 w W S gb pb sv now us) : L9 w W.drew S gb pb sv now us := h.below (pw_below_drewN (Below.refl _ _) 1)
theorem L9.ken (h : L9 w W S gb pb sv now us) (hk : Ken S W W') (hg : GmX W' S' gb pb sv' now' us') (hu : ∀ k, S' k → w.heap.size < k ∧ k < W'.heap.size) : L9 w W' S' gb pb sv' now' us' := by
  have n : ¬ S w.heap.size := fun hh => by have := h.up _ hh; omega
  exact ⟨hg, ⟨hk.cell h.bx.c0 n, hk.cell h.bx.c1 n, hk.cell h.bx.c2 n, hk.cell h.bx.c3 n⟩, h.bel.trans (hk.toBelow h.bel.size (fun k hh => Nat.le_of_lt (h.up k hh).1)), hu⟩
theorem L9.made (h : L9 w W S gb pb sv now us) (hk : Ken S W W') (hg : GmX W' (andNew S W W') gb pb sv' now' us') : L9 w W' (andNew S W W') gb pb sv' now' us' := by
  have hl : w.heap.size < W.heap.size := World.block_lt_of_cell? W ⟨w.heap.size, 0, none⟩ h.bx.c0
  have hz := hk.size
  refine h.ken hk hg (fun k hh => ?_)
  rcases hh with hh | ⟨h1, h2⟩
  · have := h.up k hh; omega
  · omega
theorem L9.same (h : L9 w W S gb pb sv now us) (hk : Ken S W W') (hg : GmX W' S gb pb sv' now' us') : L9 w W' S gb pb sv' now' us' :=
  h.ken hk hg (fun k hh => ⟨(h.up k hh).1, Nat.lt_of_lt_of_le (h.up k hh).2 hk.size⟩)
theorem B9.below (h : B9 W S b o v) (hb : Below W.heap.size W W') : B9 W' S b o v := ⟨below_cell hb _ _ _ h.c, h.n⟩
theorem B9.drew (h : B9 W S b o v) : B9 W.drew S b o v := h.below (pw_below_drewN (Below.refl _ _) 1)
theorem B9.same (h : B9 W S b o v) (hk : Ken S W W') : B9 W' S b o v := ⟨hk.cell h.c h.n, h.n⟩
theorem B9.made (h : B9 W S b o v) (hk : Ken S W W') : B9 W' (andNew S W W') b o v :=
  ⟨hk.cell h.c h.n, fun hh => hh.elim h.n (fun h2 => by have := World.block_lt_of_cell? W ⟨b, o, none⟩ h.c; have : b < W.heap.size := this; omega)⟩
end
set_option maxRecDepth 100000 in
set_option maxHeartbeats 4000000 in
theorem live9_c (w : World) (hT : TabW w) : Calls Tryz.prog 20 #[] w fun e w' => e = .returned (.bool true) ∧ Below w.heap.size w w' := by
  have HT := Aside0.mk (fun (W : World) (hb : Below w.heap.size w W) => hT.below hb)
  have HN1 := Aside0.mk (fun (W : World) (hT : TabW W) => new_start W hT)
  have HN2 := Aside0.mk (fun (W : World) (hT : TabW W) => new_zero W hT)
  obtain ⟨q, hs1, hqs, hok, hs2⟩ := start9_step
  have HK1 := Aside0.mk (fun S gb pb sv (W : World) (hG : GmX W S gb pb sv startP []) (hT : TabW W) => gmake_c S gb pb sv startP [] ⟨19, 82⟩ W hG hT start9_well (by simp))
  have HK2 := Aside0.mk (fun S gb pb sv (W : World) (hG : GmX W S gb pb sv q [⟨(19, 82), 110, 0, 1⟩]) (hT : TabW W) => gmake_c S gb pb sv q [⟨(19, 82), 110, 0, 1⟩] ⟨19, 82⟩ W hG hT hok.wq (by simp))
  have HU := Aside0.mk (fun S gb pb sv (W : World) (hG : GmX W S gb pb sv q [⟨(19, 82), 110, 0, 1⟩]) => gunmake_c S gb pb sv startP q [] ⟨(19, 82), 110, 0, 1⟩ W hG hok rfl rfl (by simp))
  have HPC := Aside0.mk (fun S gb pb sv (W : World) (hG : GmX W S gb pb sv startP []) (hT : TabW W) => gpieces0_c hG hT start9_board)
  rw [hs1] at HK1
  rw [hs2] at HK2
  unfold MadeIs at HK1 HK2
  unfold UnIs at HU
  have HQS := Aside0.mk hqs
  have HP16 := Aside0.mk start9_pieces
  have hu := Tryz.underlying23
  have hu2 := Tryz.underlying32
  have HB0 := Aside0.mk (BoxP.new w startP)
  have HL0 := Aside0.mk (below_alloc (Below.refl w.heap.size w) (.cells #[.string startP.cells, .int .i64 startP.side, .int .i64 startP.clock, .int .i64 startP.full] 23))
  clear hs1 hs2 hqs hok hT
  go_enter Tryz.func20, Tryz.ntmps20
  go_upto_region 2 with fail
  generalize w.alloc (.cells #[.string startP.cells, .int .i64 startP.side, .int .i64 startP.clock, .int .i64 startP.full] 23) = W1 at *
  obtain ⟨e0, e1, e2, e3⟩ := HB0.out
  go_wp2_with fail
  refine (HN1.out _ (HT.out _ HL0.out)).mono ?_
  rintro e w1 ⟨gb, pb, rfl, hg, hb⟩
  obtain ⟨S, H1⟩ : ∃ S, Aside0 (L9 w w1 S gb pb (.slice none 0 0) startP []) := ⟨newIn W1 w1, ⟨⟨hg, HB0.out.below hb, below_go HL0.out hb, fun k hk => ⟨Nat.lt_of_lt_of_le (World.block_lt_of_cell? W1 ⟨w.heap.size, 0, none⟩ HB0.out.c0) hk.1, hk.2⟩⟩⟩⟩
  clear hg hb e0 e1 e2 e3 HB0 HL0 HN1
  go_wp2_with fail
  refine (HN2.out _ (HT.out _ H1.out.bel)).mono ?_
  rintro e w2 ⟨rfl, hb⟩
  have H2 := Aside0.mk (H1.out.below hb)
  clear hb H1 HN2
  go_upto_region 7 with fail
  have H3 := Aside0.mk (H2.out.below (below_alloc (Below.refl _ _) (.cells #[.int .i64 19, .int .i64 82] 32)))
  have D0 : Aside0 (B9 (w2.alloc (.cells #[.int .i64 19, .int .i64 82] 32)) S w2.heap.size 0 (.int .i64 19)) := ⟨⟨by simp [World.cell?_alloc_at], fun hh => by have := H2.out.up _ hh; omega⟩⟩
  have D1 : Aside0 (B9 (w2.alloc (.cells #[.int .i64 19, .int .i64 82] 32)) S w2.heap.size 1 (.int .i64 82)) := ⟨⟨by simp [World.cell?_alloc_at], fun hh => by have := H2.out.up _ hh; omega⟩⟩
  generalize w2.alloc (.cells #[.int .i64 19, .int .i64 82] 32) = w3 at *
  clear H2
  generalize w2.heap.size = b6 at *
  have d0 := D0.out.c
  have d1 := D1.out.c
  go_wp2_with fail
  refine (HK1.out _ _ _ _ _ H3.out.gm (HT.out _ H3.out.bel)).mono ?_
  rintro e w4 ⟨sv4, rfl, hg, hk⟩
  obtain ⟨S4, H4, D04, D14⟩ : ∃ S4, Aside0 (L9 w w4 S4 gb pb sv4 q [⟨(19, 82), 110, 0, 1⟩]) ∧ Aside0 (B9 w4 S4 b6 0 (.int .i64 19)) ∧ Aside0 (B9 w4 S4 b6 1 (.int .i64 82)) := ⟨andNew S w3 w4, ⟨H3.out.made hk hg⟩, ⟨D0.out.made hk⟩, ⟨D1.out.made hk⟩⟩
  clear hg hk d0 d1 D0 D1 H3 HK1
  go_wp2_with fail
  refine (gpos_c H4.out.gm).mono ?_
  rintro e w5 ⟨rfl, hb⟩
  have hnb : Below w5.heap.size w5 (w5.alloc (.cells #[.string q.cells, .int .i64 q.side, .int .i64 q.clock, .int .i64 q.full] 23)) := below_alloc (Below.refl _ _) _
  have H5 := Aside0.mk ((H4.out.below hb).below hnb)
  have D05 := Aside0.mk ((D04.out.below hb).below hnb)
  have D15 := Aside0.mk ((D14.out.below hb).below hnb)
  have Q5 : Aside0 (B9 (w5.alloc (.cells #[.string q.cells, .int .i64 q.side, .int .i64 q.clock, .int .i64 q.full] 23)) S4 w5.heap.size 1 (.int .i64 1)) := ⟨⟨by rw [← HQS.out]; simp [World.cell?_alloc_at], fun hh => by have := (H4.out.below hb).up _ hh; omega⟩⟩
  clear hb hnb H4 D04 D14
  go_upto_region 9 with fail
  generalize w5.alloc (.cells #[.string q.cells, .int .i64 q.side, .int .i64 q.clock, .int .i64 q.full] 23) = w6 at *
  generalize w5.heap.size = b8 at *
  have d0 := D05.out.c
  have d1 := D15.out.c
  go_wp2_with fail
  refine (HK2.out _ _ _ _ _ H5.out.gm (HT.out _ H5.out.bel)).mono ?_
  rintro e w7 ⟨sv7, rfl, hg, hk⟩
  obtain ⟨S7, H7, Q7⟩ : ∃ S7, Aside0 (L9 w w7 S7 gb pb sv7 q [⟨(19, 82), 110, 0, 1⟩]) ∧ Aside0 (B9 w7 S7 b8 1 (.int .i64 1)) := ⟨andNew S4 w6 w7, ⟨H5.out.made hk hg⟩, ⟨Q5.out.made hk⟩⟩
  clear hg hk d0 d1 D05 D15 Q5 H5 HK2
  go_wp2_with fail
  refine (gplies_c H7.out.gm).mono ?_
  rintro e w8 ⟨rfl, rfl⟩
  go_wp2_with fail
  refine (HU.out _ _ _ _ _ H7.out.gm).mono ?_
  rintro e w9 ⟨sv9, rfl, hg, hk⟩
  have H9 := Aside0.mk (H7.out.same hk hg)
  have Q9 := Aside0.mk (Q7.out.same hk)
  clear hg hk H7 Q7 HU
  go_wp2_with fail
  refine (gunmake_end H9.out.gm).mono ?_
  rintro e w10 ⟨rfl, rfl⟩
  obtain ⟨e0, e1, e2, e3⟩ := H9.out.bx
  have q1 := Q9.out.c
  have HX := Aside0.mk H9.out.drew
  have QX := Aside0.mk Q9.out.drew
  clear Q9
  go_wp2_with fail
  go_region_held3 (fun V => V.cell? ⟨w.heap.size, 0, none⟩ = some (.string startP.cells) ∧ V.cell? ⟨w.heap.size, 1, none⟩ = some (.int .i64 startP.side) ∧ V.cell? ⟨w.heap.size, 2, none⟩ = some (.int .i64 startP.clock) ∧ V.cell? ⟨w.heap.size, 3, none⟩ = some (.int .i64 startP.full) ∧ V.cell? ⟨b8, 1, none⟩ = some (.int .i64 1)) (go_keep)
    (first
      | (go_at_call 28; (with_reducible refine (gpos_c HX.out.gm).mono ?_); rintro e w11 ⟨rfl, hb⟩; have H11 := Aside0.mk (HX.out.below hb); have Q11 := Aside0.mk (QX.out.below hb); clear HX QX hb e0 e1 e2 e3 q1; obtain ⟨e0, e1, e2, e3⟩ := H11.out.bx; have q1 := Q11.out.c)
      | (go_at_call 31; (with_reducible refine (gpast_c H11.out.gm (by simp)).mono ?_); rintro e w12 ⟨v, rfl, ho, hb⟩; have H12 := Aside0.mk (H11.out.below hb); have Q12 := Aside0.mk (Q11.out.below hb); obtain ⟨A12, cap12, rfl⟩ := row_form ho; clear H11 Q11 hb ho e0 e1 e2 e3 q1; obtain ⟨e0, e1, e2, e3⟩ := H12.out.bx; have q1 := Q12.out.c)
      | (go_at_call 33; (with_reducible refine (HPC.out _ _ _ _ _ H12.out.gm (HT.out _ H12.out.bel)).mono ?_); rintro e w13 ⟨v, rfl, ho, hb⟩; have H13 := Aside0.mk (H12.out.below hb); have Q13 := Aside0.mk (Q12.out.below hb); obtain ⟨A13, cap13, rfl, _⟩ := (ints_of ho).out; rw [HP16.out]; clear H12 Q12 hb ho e0 e1 e2 e3 q1; obtain ⟨e0, e1, e2, e3⟩ := H13.out.bx; have q1 := Q13.out.c))
  all_goals
    go_wp2_with fail
    go_ret
    exact ⟨rfl, H13.out.bel⟩
end Go.Proofs.YtgmlojocafepiaaGreatDoor.K

/- GameNil: the walk. -/
namespace Go.Proofs.YtgmlojocafepiaaGreatDoor.K
open Go.RowKit Go.Lib Go.Proofs.YtgmlojocafepiaaGreatDoorW.PrintWords Go.Proofs.YtgmlojocafepiaaGreatDoor.Sp
set_option linter.unusedVariables false
set_option linter.unusedSimpArgs false
theorem zero9_moves : legalL zeroP = [] := by
  unfold legalL
  rw [if_neg (by rw [zero9_well]; decide)]
set_option maxRecDepth 100000 in
set_option maxHeartbeats 4000000 in
theorem gameNilLaw (w : World) (m : Mvi) (hT : TabW w) : Calls Tryz.prog 9 #[mviV m] w fun e w' => e = .returned (.bool true) ∧ Below w.heap.size w w' := by
  have HT := Aside0.mk (fun (W : World) (hb : Below w.heap.size w W) => hT.below hb)
  have HLV := Aside0.mk (fun (W : World) (hT : TabW W) => live9_c W hT)
  have HRM := Aside0.mk (fun (W : World) => rmoves8_c zeroP (by show (0 : Nat) ≤ maxLen; omega) W)
  rw [zero9_moves] at HRM
  have HNP := Aside0.mk (fun (W : World) => show Calls Tryz.prog 28 #[.pointer none] W (fun e w' => e = .returned (.agg #[.string { data := #[] }, .int .i64 0, .int .i64 0, .int .i64 0]) ∧ Below W.heap.size W w') from npos_c W)
  have hu := Tryz.underlying23
  have hu2 := Tryz.underlying32
  have HL0 := Aside0.mk (below_alloc (Below.refl w.heap.size w) (.cells #[.int .i64 m.frm, .int .i64 m.dest] 32))
  have HD := Aside0.mk (show (w.alloc (.cells #[.int .i64 m.frm, .int .i64 m.dest] 32)).cell? ⟨w.heap.size, 0, none⟩ = some (.int .i64 m.frm) ∧ (w.alloc (.cells #[.int .i64 m.frm, .int .i64 m.dest] 32)).cell? ⟨w.heap.size, 1, none⟩ = some (.int .i64 m.dest) from ⟨by simp [World.cell?_alloc_at], by simp [World.cell?_alloc_at]⟩)
  clear hT
  go_enter Tryz.func9, Tryz.ntmps9
  go_upto_region 1 with fail
  generalize w.alloc (.cells #[.int .i64 m.frm, .int .i64 m.dest] 32) = W1 at *
  obtain ⟨d0, d1⟩ := HD.out
  go_wp2_with fail
  refine (nmake_c m _).mono ?_
  rintro e w1 ⟨rfl, hb⟩
  have H1 := Aside0.mk (below_go HL0.out hb)
  clear hb d0 d1 HD HL0
  go_wp2_with fail
  refine (nunmake_c _).mono ?_
  rintro e w2 ⟨rfl, rfl⟩
  go_wp2_with fail
  refine (HNP.out _).mono ?_
  rintro e w3 ⟨rfl, hb⟩
  have H3 := Aside0.mk (below_go H1.out hb)
  clear hb H1
  go_wp2_with fail
  refine (nplies_c _).mono ?_
  rintro e w4 ⟨rfl, rfl⟩
  go_wp2_with fail
  refine (npast_c _).mono ?_
  rintro e w5 ⟨rfl, rfl⟩
  go_wp2_with fail
  refine (npieces_c _).mono ?_
  rintro e w6 ⟨rfl, rfl⟩
  go_wp2_with fail
  refine (ncopy_c _).mono ?_
  rintro e w7 ⟨rfl, rfl⟩
  go_wp2_with fail
  refine (HRM.out _).mono ?_
  rintro e w8 ⟨v, rfl, ho, hb⟩
  have H8 := Aside0.mk (below_go H3.out hb)
  obtain ⟨A, cap, rfl⟩ := row_form ho
  clear hb ho H3
  go_wp2_with fail
  refine (HLV.out _ (HT.out _ H8.out)).mono ?_
  rintro e w9 ⟨rfl, hb⟩
  have H9 := Aside0.mk (below_go H8.out hb)
  clear hb H8
  go_wp2_with fail
  go_ret
  exact ⟨rfl, H9.out⟩
end Go.Proofs.YtgmlojocafepiaaGreatDoor.K
