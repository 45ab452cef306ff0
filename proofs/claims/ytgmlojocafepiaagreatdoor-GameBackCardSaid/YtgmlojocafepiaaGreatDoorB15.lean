/- Walks and plain laws that several statements lean on, joined: no statement of the seat is proved here. -/
import Derived.Deep.RegionHeld3
import Derived.Test.YtgmlojocafepiaaGreatDoorB13
import Derived.Test.YtgmlojocafepiaaGreatDoorB11
import Derived.Test.YtgmlojocafepiaaGreatDoorB8

/- Walk: a game's Copy. -/
namespace Go.Proofs.YtgmlojocafepiaaGreatDoor.K
open Go.RowKit Go.Lib Go.Proofs.YtgmlojocafepiaaGreatDoorW.PrintWords Go.Proofs.YtgmlojocafepiaaGreatDoor.Sp
set_option linter.unusedVariables false
set_option linter.unusedSimpArgs false
set_option maxRecDepth 100000 in
theorem nclone_c (W : World) : Calls Tryz.prog 72 #[.slice none 0 0] W fun e w' => e = .returned (.slice none 0 0) ∧ w' = W := by
  have hu := Tryz.underlying82
  have he : ∀ w : World, (binOp .eql 82 (.slice none 0 0) (.slice none 0 0)).run Tryz.prog w = .ok (.bool true) w := fun _ => rfl
  go_enter Tryz.func72, Tryz.ntmps72
  go_wp2_with fail
  go_ret
  exact ⟨rfl, rfl⟩
def CopyIs (now : Pos) (a b c d : Nat) (W : World) (e : Ending) (w' : World) : Prop :=
  ∃ kb qb, e = .returned (.pointer (some ⟨kb, 0, none⟩)) ∧ GmZ w' (newIn W w') kb qb (.slice none 0 0) now a b c d [] ∧ Below W.heap.size W w'
theorem copy_is (W : World) (now : Pos) (a b c d : Nat) : CopyIs now a b c d W (.returned (.pointer (some ⟨W.heap.size + 1, 0, none⟩))) ((W.alloc (.cells #[.slice none 0 0] 84)).alloc (.cells #[.pointer (some ⟨W.heap.size, 0, none⟩), .string now.cells, .int .i64 now.side, .int .i64 now.clock, .int .i64 now.full, .int .u64 (a : Int), .int .u64 (b : Int), .int .u64 (c : Int), .int .u64 (d : Int)] 90)) := by
  have hb1 := below_alloc (Below.refl W.heap.size W) (.cells #[.slice none 0 0] 84)
  have hs : (W.alloc (.cells #[.slice none 0 0] 84)).heap.size = W.heap.size + 1 := by simp
  have hb2 := below_alloc hb1 (.cells #[.pointer (some ⟨W.heap.size, 0, none⟩), .string now.cells, .int .i64 now.side, .int .i64 now.clock, .int .i64 now.full, .int .u64 (a : Int), .int .u64 (b : Int), .int .u64 (c : Int), .int .u64 (d : Int)] 90)
  refine ⟨W.heap.size + 1, W.heap.size, rfl, ⟨?_, ?_, ?_, ?_, ?_, ?_, ?_, ?_, ?_, fun k => World.frozen?_alloc_at _ _ _ k hs.symm, ?_, fun k => (World.frozen?_alloc_past _ _ k (by rw [hs]; omega)).trans (World.frozen?_alloc_at _ _ _ k rfl), World.ownsRow_nil _ _ _ _, by omega, fun k hk => by simp [Value.ownBlock] at hk, ⟨by omega, by simp⟩, ⟨Nat.le_refl _, by simp; omega⟩⟩, hb2⟩
  all_goals first
    | (rw [World.cell?_alloc_at _ _ _ _ hs.symm]; rfl)
    | (rw [World.cell?_alloc_past _ _ _ (by rw [hs]; omega), World.cell?_alloc_at _ _ _ _ rfl]; rfl)
theorem CopyIs.drew {now : Pos} {a b c d : Nat} {W : World} {e : Ending} {w' : World} (h : CopyIs now a b c d W e w') : CopyIs now a b c d W e w'.drew := by
  obtain ⟨kb, qb, h1, h2, h3⟩ := h
  exact ⟨kb, qb, h1, h2.drew, pw_below_drewN h3 1⟩
set_option maxRecDepth 100000 in
set_option maxHeartbeats 4000000 in
theorem gcopy_c {W : World} {S : Nat → Prop} {gb pb : Nat} {now : Pos} {a b c d : Nat} (h : GmZ W S gb pb (.slice none 0 0) now a b c d []) : Calls Tryz.prog 36 #[.pointer (some ⟨gb, 0, none⟩)] W (CopyIs now a b c d W) := by
  have hu := Tryz.underlying23
  have HC := Aside0.mk (fun W => nclone_c W)
  have HR := Aside0.mk (copy_is W now a b c d)
  have hlt1 := h.lt.1
  have hlt2 := h.lt.2
  obtain ⟨g0, g1, g2, g3, g4, g5, g6, g7, g8, gf, p0, pf, _, _, _, _, _⟩ := h
  go_enter Tryz.func36, Tryz.ntmps36
  go_wp2_with fail
  go_region_held3 (fun V => V.cell? ⟨gb, 0, none⟩ = some (.pointer (some ⟨pb, 0, none⟩)) ∧ V.cell? ⟨gb, 1, none⟩ = some (.string now.cells) ∧ V.cell? ⟨gb, 2, none⟩ = some (.int .i64 now.side) ∧ V.cell? ⟨gb, 3, none⟩ = some (.int .i64 now.clock) ∧ V.cell? ⟨gb, 4, none⟩ = some (.int .i64 now.full) ∧ V.cell? ⟨gb, 5, none⟩ = some (.int .u64 (a : Int)) ∧ V.cell? ⟨gb, 6, none⟩ = some (.int .u64 (b : Int)) ∧ V.cell? ⟨gb, 7, none⟩ = some (.int .u64 (c : Int)) ∧ V.cell? ⟨gb, 8, none⟩ = some (.int .u64 (d : Int)) ∧ V.cell? ⟨pb, 0, none⟩ = some (.slice none 0 0)) (go_keep)
    ((go_at_call 72; (with_reducible refine (HC.out _).mono ?_); rintro e w1 ⟨rfl, rfl⟩))
  all_goals
    go_wp2_with fail
    go_ret
    first
    | exact HR.out
    | exact HR.out.drew
end Go.Proofs.YtgmlojocafepiaaGreatDoor.K

/- GameBack: the walk. -/
namespace Go.Proofs.YtgmlojocafepiaaGreatDoor.K
open Go.RowKit Go.Lib Go.Proofs.YtgmlojocafepiaaGreatDoorW.PrintWords Go.Proofs.YtgmlojocafepiaaGreatDoor.Sp
set_option linter.unusedVariables false
set_option linter.unusedSimpArgs false
/-- A game, its copy that stays, and the first position's box. -/
structure J9 (w W : World) (S : Nat → Prop) (gb pb : Nat) (sv : Value) (q : Pos) (us : List Und) (S2 : Nat → Prop) (kb qb : Nat) (p : Pos) : Prop where
  g : G9 w W S gb pb sv q us
  k : GmX W S2 kb qb (.slice none 0 0) p []
  ks : ∀ i, S2 i → ¬ S i ∧ i < W.heap.size
  b : P9 W S w.heap.size p
section
variable {w W W' : World} {S S2 : Nat → Prop} {gb pb kb qb : Nat} {sv sv' : Value} {q q' p : Pos} {us us' : List Und}
theorem J9.below (h : J9 w W S gb pb sv q us S2 kb qb p) (hb : Below W.heap.size W W') : J9 w W' S gb pb sv q us S2 kb qb p :=
  ⟨h.g.below hb, h.k.below hb, fun i hi => ⟨(h.ks i hi).1, Nat.lt_of_lt_of_le (h.ks i hi).2 hb.size⟩, h.b.below hb⟩
theorem J9.drew (h : J9 w W S gb pb sv q us S2 kb qb p) : J9 w W.drew S gb pb sv q us S2 kb qb p := h.below (pw_below_drewN (Below.refl _ _) 1)
theorem J9.made (h : J9 w W S gb pb sv q us S2 kb qb p) (hk : Ken S W W') (hg : GmX W' (andNew S W W') gb pb sv' q' us') : ∃ S', J9 w W' S' gb pb sv' q' us' S2 kb qb p := by
  have hz := hk.size
  refine ⟨andNew S W W', ⟨hg, h.g.bel.trans (hk.toBelow h.g.bel.size (fun k hh => (h.g.up k hh).1)), fun k hh => ?_⟩, h.k.ken hk (fun i hi => (h.ks i hi).1), fun i hi => ⟨fun hh => ?_, Nat.lt_of_lt_of_le (h.ks i hi).2 hz⟩, h.b.made hk⟩
  · have hl := h.g.bel.size
    rcases hh with hh | ⟨h1, h2⟩
    · have := h.g.up k hh; omega
    · omega
  · rcases hh with hh | ⟨h1, h2⟩
    · exact (h.ks i hi).1 hh
    · have := (h.ks i hi).2; omega
theorem J9.same (h : J9 w W S gb pb sv q us S2 kb qb p) (hk : Ken S W W') (hg : GmX W' S gb pb sv' q' us') : J9 w W' S gb pb sv' q' us' S2 kb qb p :=
  ⟨h.g.same hk hg, h.k.ken hk (fun i hi => (h.ks i hi).1), fun i hi => ⟨(h.ks i hi).1, Nat.lt_of_lt_of_le (h.ks i hi).2 hk.size⟩, h.b.same hk⟩
end
set_option maxRecDepth 100000 in
set_option maxHeartbeats 8000000 in
theorem gameBackLaw (w : World) (p : Pos) (a : Option Addr) (n cap : Nat) (M : Nat → Mvi) (hmx : p.cells.size ≤ maxLen) (ha : MovesAt w a n M) (hT : TabW w) : Calls Tryz.prog 8 #[posV p, .slice a n cap] w fun e w' => e = .returned (.bool true) ∧ Below w.heap.size w w' := by
  have HT := Aside0.mk (fun (W : World) (hb : Below w.heap.size w W) => hT.below hb)
  have HLV := Aside0.mk (fun (W : World) (hT : TabW W) => live9_c W hT)
  have HM := Aside0.mk ha
  have hu := Tryz.underlying23
  have hu2 := Tryz.underlying32
  have HB0 := Aside0.mk (BoxP.new w p)
  have HL0 := Aside0.mk (below_alloc (Below.refl w.heap.size w) (.cells #[.string p.cells, .int .i64 p.side, .int .i64 p.clock, .int .i64 p.full] 23))
  by_cases hgd : 200 < p.cells.size ∨ 40 < n
  · rcases (show (200 : Int) < (p.cells.size : Int) ∨ (¬ (200 : Int) < (p.cells.size : Int) ∧ (40 : Int) < (n : Int)) by omega) with h1 | ⟨h1, h2⟩
    all_goals
      clear hgd hmx hT ha
      go_enter Tryz.func8, Tryz.ntmps8
      go_wp2_with fail
      refine (HLV.out _ (HT.out _ HL0.out)).mono ?_
      rintro e w1 ⟨rfl, hb⟩
      have HW1 := Aside0.mk (below_go HL0.out hb)
      clear hb
      go_wp2_with fail
      go_ret
      exact ⟨rfl, HW1.out⟩
  have h1 : ¬ ((200 : Int) < (p.cells.size : Int)) := by omega
  have h2 : ¬ ((40 : Int) < (n : Int)) := by omega
  have HN := Aside0.mk (fun (W : World) (hT : TabW W) => gnew_c p W hT)
  have HWL := Aside0.mk (fun W => rwell_c p hmx W)
  unfold NewIs at HN
  by_cases hw : wellS p = 0
  case neg =>
    have HN2 : Aside0 (∀ (W : World), TabW W → Calls Tryz.prog 21 #[posV p] W fun e w' => e = .returned (.tuple #[.pointer none, .int .i64 (wellS p)]) ∧ Below W.heap.size W w') := ⟨fun W hT => (HN.out W hT).mono (fun e w' h => by rwa [if_pos hw] at h)⟩
    generalize hx : wellS p = x at *
    have hn : (x != 0) = true := by simpa using hw
    clear hx hw HN hgd hmx hT ha
    go_enter Tryz.func8, Tryz.ntmps8
    go_upto_region 1 with fail
    generalize w.alloc (.cells #[.string p.cells, .int .i64 p.side, .int .i64 p.clock, .int .i64 p.full] 23) = W1 at *
    obtain ⟨e0, e1, e2, e3⟩ := HB0.out
    go_wp2_with fail
    refine (HN2.out _ (HT.out _ HL0.out)).mono ?_
    rintro e w1 ⟨rfl, hb⟩
    have HW1 := Aside0.mk (below_go HL0.out hb)
    have HB1 := Aside0.mk (HB0.out.below hb)
    clear hb e0 e1 e2 e3
    obtain ⟨e0, e1, e2, e3⟩ := HB1.out
    go_wp2_with fail
    refine (HWL.out _).mono ?_
    rintro e w2 ⟨rfl, hb⟩
    have HW2 := Aside0.mk (below_go HW1.out hb)
    clear hb e0 e1 e2 e3
    go_wp2_with fail
    refine (HLV.out _ (HT.out _ HW2.out)).mono ?_
    rintro e w3 ⟨rfl, hb⟩
    have HW3 := Aside0.mk (below_go HW2.out hb)
    clear hb
    go_wp2_with fail
    go_ret
    exact ⟨rfl, HW3.out⟩
  case pos =>
  have HN2 : Aside0 (∀ (W : World), TabW W → Calls Tryz.prog 21 #[posV p] W fun e w' => ∃ gb pb, e = .returned (.tuple #[.pointer (some ⟨gb, 0, none⟩), .int .i64 0]) ∧ GmX w' (newIn W w') gb pb (.slice none 0 0) p [] ∧ Below W.heap.size W w') := ⟨fun W hT => (HN.out W hT).mono (fun e w' h => by rwa [if_neg (by simpa using hw)] at h)⟩
  have HW := Aside0.mk hw
  have HN40 := Aside0.mk (show n ≤ 40 by omega)
  clear HN HWL hw hgd hmx hT ha
  go_enter Tryz.func8, Tryz.ntmps8
  go_upto_region 1 with fail
  generalize hW1 : w.alloc (.cells #[.string p.cells, .int .i64 p.side, .int .i64 p.clock, .int .i64 p.full] 23) = W1 at *
  have hz : W1.heap.size = w.heap.size + 1 := by rw [← hW1]; simp
  clear hW1
  obtain ⟨e0, e1, e2, e3⟩ := HB0.out
  go_wp2_with fail
  refine (HN2.out _ (HT.out _ HL0.out)).mono ?_
  rintro e w1 ⟨gb, pb, rfl, hg, hb⟩
  obtain ⟨S, H1, B1⟩ : ∃ S, Aside0 (G9 w w1 S gb pb (.slice none 0 0) p []) ∧ Aside0 (P9 w1 S w.heap.size p) := ⟨newIn W1 w1, ⟨⟨hg, below_go HL0.out hb, fun k hk => ⟨by have := hk.1; omega, hk.2⟩⟩⟩, ⟨⟨HB0.out.below hb, fun hk => by have := hk.1; omega⟩⟩⟩
  clear hg hb e0 e1 e2 e3 HB0 HL0 HN2 hz h1 h2
  obtain ⟨e0, e1, e2, e3⟩ := B1.out.bx
  go_wp2_with fail
  refine (gcopy_c H1.out.gm).mono ?_
  rintro e w2 ⟨kb, qb, rfl, hg, hb⟩
  have HJ : Aside0 (J9 w w2 S gb pb (.slice none 0 0) p [] (newIn w1 w2) kb qb p) := ⟨⟨H1.out.below hb, hg, fun i hi => ⟨fun hh => by have := (H1.out.up i hh).2; have := hi.1; omega, hi.2⟩, B1.out.below hb⟩⟩
  generalize newIn w1 w2 = S2 at HJ
  clear hg hb e0 e1 e2 e3 H1 B1
  go_wp2_with fail
  go_loopg [8, 9] n (fun gg s8 s9 wr => ∃ (i : Nat) (S : Nat → Prop) (sv : Value) (now : Pos) (us : List Und) (ps : List Pos), s8 = .int .i64 (us.length : Int) ∧ s9 = .int .i64 (i : Int) ∧ i + gg = n ∧ Aside0 (J9 w wr S gb pb sv now us S2 kb qb p) ∧ Aside0 (Plays ps us now ∧ us.length ≤ i ∧ (ps ++ [now])[0]? = some p))
  case atStart => exact ⟨0, S, _, p, [], [], rfl, rfl, by omega, HJ, ⟨⟨Plays.nil p HW.out, by simp, by simp⟩⟩⟩
  case round =>
    clear HJ
    obtain ⟨i, S', sv, now, us, ps, rfl, rfl, hi, HX, HI⟩ := hrel
    cases gk with
    | succ g =>
      have hn : (i : Int) < (n : Int) := by omega
      have hib : (i : Int) ≤ 40 := by have := HN40.out; omega
      have hul : (us.length : Int) ≤ 40 := by have := HN40.out; have := HI.out.2.1; omega
      have HIN := Aside0.mk (show i + 1 + g = n by omega)
      obtain ⟨ga, o, rfl, hx⟩ := HM.out.resolve_left (by omega)
      have HMV := Aside0.mk (fun (W : World) (hb : Below w.heap.size w W) => (show W.cell? ⟨ga, o + i * 2, none⟩ = some (.int .i64 (M i).frm) ∧ W.cell? ⟨ga, o + i * 2 + 1, none⟩ = some (.int .i64 (M i).dest) from ⟨below_cell hb _ _ _ (hx i (by omega)).1, below_cell hb _ _ _ (hx i (by omega)).2⟩))
      clear hx hi
      have HPM := Aside0.mk (HI.out.1.made (m := M i))
      have HMKC := Aside0.mk (gmake_c S' gb pb sv now us (M i) wr HX.out.g.gm (HT.out _ HX.out.g.bel) HI.out.1.well (by have := HI.out.2.1; have := HN40.out; have := HIN.out; omega))
      unfold MadeIs at HMKC
      generalize stepMake now us (M i) = r at *
      obtain ⟨r1, q, us2⟩ := r
      simp only at HPM
      obtain ⟨x0, x1⟩ := HMV.out _ HX.out.g.bel
      rcases HPM.out with ⟨rfl, hp2, hp3⟩ | ⟨hr, hp2⟩
      · have HP := Aside0.mk (And.intro hp2 hp3)
        clear hp2 hp3 HPM
        go_wp2_with fail
        refine HMKC.out.mono ?_
        rintro e w4 ⟨sv4, rfl, hg, hk⟩
        obtain ⟨S4, H4⟩ := HX.out.made hk hg
        have H4 := Aside0.mk H4
        clear hg hk x0 x1
        go_wp2_with fail
        go_roundg g
        case measure => omega
        case rel => exact ⟨i + 1, S4, _, q, us2, _, by rw [HP.out.2]; go_num, by go_num, HIN.out, H4, ⟨⟨HP.out.1, by have := HP.out.2; have := HI.out.2.1; omega, HI.out.1.first HI.out.2.2 q⟩⟩⟩
      · have hrb : (r1 == 0) = false := by simpa using hr
        simp only [Prod.mk.injEq] at hp2
        obtain ⟨rfl, rfl⟩ := hp2
        clear HPM hr
        go_wp2_with fail
        refine HMKC.out.mono ?_
        rintro e w4 ⟨sv4, rfl, hg, hk⟩
        obtain ⟨S4, H4⟩ := HX.out.made hk hg
        have H4 := Aside0.mk H4
        clear hg hk x0 x1
        go_wp2_with fail
        go_roundg g
        case measure => omega
        case rel => exact ⟨i + 1, S4, _, _, _, ps, rfl, by go_num, HIN.out, H4, ⟨⟨HI.out.1, by have := HI.out.2.1; omega, HI.out.2.2⟩⟩⟩
    | zero =>
      have hn : ¬ ((i : Int) < (n : Int)) := by omega
      have HUL := Aside0.mk (show us.length ≤ 40 by have := HI.out.2.1; have := HN40.out; omega)
      have HPL := Aside0.mk HI.out.1
      have HFS := Aside0.mk HI.out.2.2
      clear hi HI
      obtain ⟨e0, e1, e2, e3⟩ := HX.out.b.bx
      have HY := Aside0.mk HX.out.drew
      clear HX
      go_wp2_with fail
      go_region_held3 (fun V => V.cell? ⟨w.heap.size, 0, none⟩ = some (.string p.cells) ∧ V.cell? ⟨w.heap.size, 1, none⟩ = some (.int .i64 p.side) ∧ V.cell? ⟨w.heap.size, 2, none⟩ = some (.int .i64 p.clock) ∧ V.cell? ⟨w.heap.size, 3, none⟩ = some (.int .i64 p.full)) (go_keep)
        (first
          | (go_at_call 29; (with_reducible refine (gplies_c HY.out.g.gm).mono ?_); rintro e w11 ⟨rfl, rfl⟩)
          | (go_at_call 29; (with_reducible refine (gplies_c HY.out.k).mono ?_); rintro e w11 ⟨rfl, rfl⟩)
          | (go_at_call 28; (with_reducible refine (gpos_c HY.out.k).mono ?_); rintro e w11 ⟨rfl, hb⟩; have H11 := Aside0.mk (HY.out.below hb); clear HY hb e0 e1 e2 e3; obtain ⟨e0, e1, e2, e3⟩ := H11.out.b.bx))
      all_goals
        clear e0 e1 e2 e3
        go_wp2_with fail
        go_loopg [10] us.length (fun gg s10 wr => ∃ (i j : Nat) (sv : Value) (q : Pos) (us2 : List Und), s10 = .int .i64 (i : Int) ∧ i + gg = us.length ∧ j + i = us.length ∧ Aside0 (J9 w wr S' gb pb sv q us2 S2 kb qb p ∧ us2 = us.take j ∧ (ps ++ [now])[j]? = some q))
        case atStart => exact ⟨0, us.length, _, _, _, rfl, by omega, by omega, ⟨⟨H11.out, List.take_length.symm, HPL.out.top⟩⟩⟩
        case round =>
          clear H11
          obtain ⟨i2, j, sv2, q2, us2, rfl, hi, hj, HZ⟩ := hrel
          cases gk with
          | succ g =>
            have hn2 : (i2 : Int) < (us.length : Int) := by omega
            have hib2 : (i2 : Int) ≤ 40 := by have := HUL.out; omega
            have HI2 := Aside0.mk (show i2 + 1 + g = us.length by omega)
            obtain ⟨k, rfl⟩ : ∃ k, j = k + 1 := ⟨j - 1, by omega⟩
            have hkl : k < us.length := by omega
            have HJ2 := Aside0.mk (show k + (i2 + 1) = us.length by omega)
            obtain ⟨pp, a1, a2, a3, a4⟩ := HPL.out.down k hkl HZ.out.2.2
            have HUN := Aside0.mk (gunmake_c S' gb pb sv2 pp q2 (us.take k) us[k] wr (by have := HZ.out.1.g.gm; rw [HZ.out.2.1, take_next us k hkl] at this; exact this) a2 a3 a4 (by have := HUL.out; rw [List.length_take]; omega))
            have HA1 := Aside0.mk a1
            unfold UnIs at HUN
            clear a1 a2 a3 a4 hi hj hkl
            go_wp2_with fail
            refine HUN.out.mono ?_
            rintro e w6 ⟨sv6, rfl, hg, hk⟩
            have H6 := Aside0.mk (HZ.out.1.same hk hg)
            clear hg hk HZ HUN
            go_wp2_with fail
            go_roundg g
            case measure => omega
            case rel => exact ⟨i2 + 1, k, _, _, _, by go_num, HI2.out, HJ2.out, ⟨⟨H6.out, rfl, HA1.out⟩⟩⟩
          | zero =>
            have hn2 : ¬ ((i2 : Int) < (us.length : Int)) := by omega
            obtain rfl : j = 0 := by omega
            obtain rfl : q2 = p := by have := HZ.out.2.2; rw [HFS.out] at this; exact (Option.some.inj this).symm
            obtain rfl : us2 = [] := by have := HZ.out.2.1; simpa using this
            have HV := Aside0.mk HZ.out.1.drew
            obtain ⟨e0, e1, e2, e3⟩ := HZ.out.1.b.bx
            clear hi hj HZ
            go_wp2_with fail
            go_region_held3 (fun V => V.cell? ⟨w.heap.size, 0, none⟩ = some (.string q2.cells) ∧ V.cell? ⟨w.heap.size, 1, none⟩ = some (.int .i64 q2.side) ∧ V.cell? ⟨w.heap.size, 2, none⟩ = some (.int .i64 q2.clock) ∧ V.cell? ⟨w.heap.size, 3, none⟩ = some (.int .i64 q2.full)) (go_keep)
              (first
                | (go_at_call 28; (with_reducible refine (gpos_c HV.out.g.gm).mono ?_); rintro e w21 ⟨rfl, hb⟩; have H21 := Aside0.mk (HV.out.below hb); clear HV hb e0 e1 e2 e3; obtain ⟨e0, e1, e2, e3⟩ := H21.out.b.bx)
                | (go_at_call 23; (with_reducible refine (gunmake_end H21.out.g.gm).mono ?_); rintro e w22 ⟨rfl, rfl⟩)
                | (go_at_call 31; (with_reducible refine (gpast_c H21.out.g.gm (by simp)).mono ?_); rintro e w22 ⟨v, rfl, ho, hb⟩; have H22 := Aside0.mk (H21.out.below hb); obtain ⟨A12, cap12, rfl⟩ := row_form ho; clear H21 hb ho e0 e1 e2 e3; obtain ⟨e0, e1, e2, e3⟩ := H22.out.b.bx)
                | (go_at_call 20; (with_reducible refine (HLV.out _ (HT.out _ H22.out.g.bel)).mono ?_); rintro e w23 ⟨rfl, hb⟩; have H23 := Aside0.mk (H22.out.below hb); clear H22 hb e0 e1 e2 e3; obtain ⟨e0, e1, e2, e3⟩ := H23.out.b.bx))
            all_goals
              go_wp2_with fail
              go_ret
              exact ⟨rfl, H23.out.g.bel⟩
end Go.Proofs.YtgmlojocafepiaaGreatDoor.K
