/- Walk of the law TableOne. -/
import Derived.Test.YtojklhlcoakieaaT7
import Derived.Deep.LoopGhost
import Derived.IntWalk
namespace Go.Proofs.Ytojklhlcoakieaa.P
open Go.RowKit Go.Lib Go.Proofs.YtojklhlcoakieaaW.PrintWords Go.Proofs.YtojklhlcoakieaaW.PrintLast Go.Proofs.YtojklhlcoakieaaW.PrintMore
set_option linter.unusedVariables false
set_option linter.unusedSimpArgs false
/-- An entry among others, its cells from o on. -/
def EntAt (W : World) (g o : Nat) (e : Ent) : Prop :=
  g < W.heap.size ∧ W.cell? ⟨g, o, none⟩ = some (.int .u64 e.key) ∧ W.cell? ⟨g, o + 1, none⟩ = some (.int .i64 e.depth) ∧ W.cell? ⟨g, o + 2, none⟩ = some (.int .i64 e.score) ∧ W.cell? ⟨g, o + 3, none⟩ = some (.int .i64 e.sure) ∧ W.cell? ⟨g, o + 4, none⟩ = some (.int .i64 e.frm) ∧ W.cell? ⟨g, o + 5, none⟩ = some (.int .i64 e.dest)
theorem EntAt.below {W W' : World} {g o B : Nat} {e : Ent} (h : EntAt W g o e) (hg : g < B) (hB : B ≤ W.heap.size) (hb : Below B W W') : EntAt W' g o e := by
  obtain ⟨h0, h1, h2, h3, h4, h5, h6⟩ := h
  have c : ∀ k v, W.cell? ⟨g, k, none⟩ = some v → W'.cell? ⟨g, k, none⟩ = some v := fun k v h => (hb.cell (p := ⟨g, k, none⟩) hg).trans h
  exact ⟨Nat.lt_of_lt_of_le h0 hb.size, c _ _ h1, c _ _ h2, c _ _ h3, c _ _ h4, c _ _ h5, c _ _ h6⟩
/-- What the loop of TableOne keeps: the table, and all else below. -/
structure OneAt (w0 W : World) (T : Nat → Option Ent) (c : Nat) : Prop where
  tab : TabAt W (w0.heap.size + 1) w0.heap.size 1 T c
  bel : Below w0.heap.size w0 W
theorem OneAt.below {w0 W W' : World} {c : Nat} {T : Nat → Option Ent} (h : OneAt w0 W T c) (hb : Below W.heap.size W W') : OneAt w0 W' T c :=
  ⟨h.tab.below hb, h.bel.trans (hb.mono h.bel.size)⟩
theorem OneAt.turned {w0 W W' : World} {c c' : Nat} {T T' : Nat → Option Ent} (h : OneAt w0 W T c) (ht : TabAt W' (w0.heap.size + 1) w0.heap.size 1 T' c') (hb : Turned (w0.heap.size + 1) w0.heap.size W W') : OneAt w0 W' T' c' :=
  ⟨ht, h.bel.trans (hb.below (by omega) (by omega) h.bel.size)⟩
theorem OneAt.drewN {w0 W : World} {c : Nat} {T : Nat → Option Ent} (h : OneAt w0 W T c) (q : Nat) : OneAt w0 (W.drewN q) T c := ⟨h.tab.drewN q, pw_below_drewN h.bel q⟩
/-- What the end of a round knows: an entry in its box, one of the list, the table. -/
def EndAt (w0 W : World) (by_ g o : Nat) (x y : Ent) (T : Nat → Option Ent) (c : Nat) : Prop := EntAt W by_ 0 y ∧ EntAt W g o x ∧ OneAt w0 W T c
theorem EndAt.below {w0 W W' : World} {b g o c : Nat} {x y : Ent} {T : Nat → Option Ent} (h : EndAt w0 W b g o x y T c) (hb : Below W.heap.size W W') : EndAt w0 W' b g o x y T c :=
  ⟨h.1.below h.1.1 (Nat.le_refl _) hb, h.2.1.below h.2.1.1 (Nat.le_refl _) hb, h.2.2.below hb⟩
theorem EndAt.drew {w0 W : World} {b g o c : Nat} {x y : Ent} {T : Nat → Option Ent} (h : EndAt w0 W b g o x y T c) : EndAt w0 W.drew b g o x y T c :=
  ⟨h.1, h.2.1, ⟨⟨h.2.2.tab.ptr, h.2.2.tab.cnt, h.2.2.tab.fz, h.2.2.tab.cells, h.2.2.tab.fzs, h.2.2.tab.ne, h.2.2.tab.pos, h.2.2.tab.most⟩, Below.drew h.2.2.bel⟩⟩
/-- The last entry that lies in the table. -/
def OneInv (S : Nat → Ent) (i : Nat) (at_ : Int) (T : Nat → Option Ent) (c : Nat) : Prop :=
  (at_ = -1 ∧ T 0 = none ∧ c = 0) ∨ ∃ j : Nat, j < i ∧ at_ = j ∧ T 0 = some (S j) ∧ c = 1
theorem slotN_one (k : Int) : slotN k 1 = 0 := by unfold slotN; simp
set_option maxRecDepth 100000 in
set_option maxHeartbeats 4000000 in
theorem tableOne_walk (w : World) (a : Option Addr) (len cap : Nat) (S : Nat → Ent) (hle : len ≤ 9223372036854775807)
  (ha : len = 0 ∨ ∃ g o, a = some ⟨g, o, none⟩ ∧ ∀ i, i < len → EntAt w g (o + i * 6) (S i) ∧ 0 ≤ (S i).key) :
  Calls Try.prog 6 #[.slice a len cap] w fun x w' => x = .returned (.bool true) ∧ Below w.heap.size w w' := by
  have HA := Aside0.mk ha
  have HLE := Aside0.mk hle
  clear ha hle
  by_cases h60 : len ≤ 60
  case neg =>
    have b0 : decide ((60 : Int) < (len : Int)) = true := decide_eq_true (by omega)
    go_enter Try.func6, Try.ntmps6
    go_wp2_with fail
    refine (new_walk w 1 (by decide) (by decide)).mono ?_
    rintro y w1 ⟨rfl, ht, hb⟩
    have HB := Aside0.mk hb
    clear ht hb
    go_wp2_with fail
    refine (live_walk _).mono ?_
    rintro y w2 ⟨rfl, hb⟩
    have HB2 := Aside0.mk (HB.out.trans (hb.mono HB.out.size))
    clear hb
    go_wp2_with fail
    go_ret
    exact ⟨rfl, HB2.out⟩
  have b0 : decide ((60 : Int) < (len : Int)) = false := decide_eq_false (by omega)
  go_enter Try.func6, Try.ntmps6
  go_wp2_with fail
  refine (new_walk w 1 (by decide) (by decide)).mono ?_
  rintro y w1 ⟨rfl, ht, hb⟩
  have H1 := Aside0.mk (OneAt.mk ht hb)
  clear ht hb
  go_wp2_with fail
  go_loopg [5, 6] len (fun gg s5 s6 wr => ∃ (i : Nat) (at_ : Int) (T : Nat → Option Ent) (c : Nat), s5 = .int .i64 at_ ∧ s6 = .int .i64 i ∧ i + gg = len ∧ Aside0 (OneInv S i at_ T c) ∧ Aside0 (OneAt w wr T c))
  case atStart => exact ⟨0, -1, _, 0, rfl, rfl, by omega, ⟨.inl ⟨rfl, rfl, rfl⟩⟩, H1⟩
  case round =>
    obtain ⟨i, at_, T, c, rfl, rfl, hig, HI, HW⟩ := hrel
    have HG := Aside0.mk hig
    clear hig
    by_cases hlt : i < len
    case neg =>
      have b1 : decide ((i : Int) < (len : Int)) = false := decide_eq_false (by omega)
      go_wp2_with fail
      refine (live_walk _).mono ?_
      rintro y w2 ⟨rfl, hb⟩
      have HB2 := Aside0.mk (HW.out.bel.trans (hb.mono HW.out.bel.size))
      clear hb
      go_wp2_with fail
      go_ret
      exact ⟨rfl, HB2.out⟩
    obtain ⟨g, o, rfl, hS⟩ := HA.out.resolve_left (by omega)
    have HS := Aside0.mk hS
    clear hS HA
    have hx := (HS.out i hlt).1.below (HS.out i hlt).1.1 (Nat.le_refl _) HW.out.bel
    have HK := Aside0.mk (HS.out i hlt).2
    have b1 : decide ((i : Int) < (len : Int)) = true := decide_eq_true (by omega)
    have b2 : 0 ≤ (i : Int) := by omega
    have b3 : (i : Int) < (len : Int) := by omega
    obtain ⟨e0, e1, e2, e3, e4, e5, e6⟩ := hx
    have HO : Aside0 (∀ W, OneAt w W T c → Calls Try.prog 9 #[.pointer (some ⟨w.heap.size + 1, 0, none⟩), entV (S i)] W fun x w' => x = .returned (.bool (putF T 1 c (S i)).1) ∧ OneAt w w' (putF T 1 c (S i)).2.1 (putF T 1 c (S i)).2.2) := ⟨fun W h => (put_walk W _ _ 1 c T (S i) HK.out h.tab (by rcases HI.out with ⟨_, _, h⟩ | ⟨_, _, _, _, h⟩ <;> omega)).mono fun x w' ⟨h1, h2, h3⟩ => ⟨h1, h.turned h2 h3⟩⟩
    by_cases hbad : (S i).sure < 0 ∨ 2 < (S i).sure
    case pos =>
      have hp : putF T 1 c (S i) = (false, T, c) := by
        unfold putF
        rcases hbad with h | h
        · rw [show decide ((S i).sure < 0) = true from decide_eq_true h]; rfl
        · rw [show decide (2 < (S i).sure) = true from decide_eq_true h, Bool.or_true]; rfl
      have HP := Aside0.mk hp
      clear hp
      rcases hbad with hs | hs
      case' inr => have hs0 : ¬ (S i).sure < 0 := by omega
      all_goals
        go_wp2_with fail
        refine (own_walk _ _).mono ?_
        rintro y w2 ⟨rfl, hb⟩
        have HW2 := Aside0.mk (HW.out.below ((below_alloc (Below.refl wr.heap.size wr) _).trans (hb.mono (by simp))))
        clear hb e0 e1 e2 e3 e4 e5 e6
        go_wp2_with fail
        refine (HO.out _ HW2.out).mono ?_
        rw [HP.out]
        rintro y w3 ⟨rfl, hw⟩
        have HW3 := Aside0.mk hw
        clear hw
        go_wp2_with fail
        go_roundg (len - (i + 1))
        case measure => have := HG.out; omega
        case rel => exact ⟨i + 1, at_, T, c, rfl, by go_num, by have := HG.out; omega, ⟨by rcases HI.out with h | ⟨j, h1, h2⟩; exact .inl h; exact .inr ⟨j, by omega, h2⟩⟩, HW3⟩
    case neg =>
      have hs0 : decide ((S i).sure < 0) = false := decide_eq_false (by omega)
      have hs1 : decide (2 < (S i).sure) = false := decide_eq_false (by omega)
      rcases HI.out with ⟨rfl, hT, rfl⟩ | ⟨j, hj, rfl, hT, rfl⟩
      case inl =>
        have HP := Aside0.mk (show putF T 1 0 (S i) = (true, putT T 0 (S i), 1) by unfold putF; rw [hs0, hs1, slotN_one, hT]; rfl)
        have HTT := Aside0.mk (show putT T 0 (S i) 0 = some (S i) by simp [putT])
        have HGET := Aside0.mk (show getF (putT T 0 (S i)) 1 (S i).key = (S i, true) by unfold getF; rw [slotN_one]; simp [putT])
        clear hT hbad
        go_wp2_with fail
        go_quiet (fail)
        go_wp2_with fail
        refine (own_walk _ _).mono ?_
        rintro y w2 ⟨rfl, hb⟩
        have HW2 := Aside0.mk (HW.out.below ((pw_below_drewN (below_alloc (Below.refl wr.heap.size wr) _) nq).trans (hb.mono (by simp))))
        clear hb e0 e1 e2 e3 e4 e5 e6
        go_wp2_with fail
        refine (HO.out _ HW2.out).mono ?_
        rw [HP.out]
        rintro y w3 ⟨rfl, hw⟩
        have HW3 := Aside0.mk (show OneAt w w3 (putT T 0 (S i)) 1 from hw)
        clear hw
        have hx := (HS.out i (by omega)).1.below (HS.out i (by omega)).1.1 (Nat.le_refl _) HW3.out.bel
        have hk0 : 0 ≤ (i : Int) := by omega
        have hk1 : (i : Int) < (len : Int) := by omega
        obtain ⟨f0, f1, f2, f3, f4, f5, f6⟩ := hx
        go_wp2_with fail
        refine (get_walk _ _ _ 1 1 _ (S i).key (HS.out i (by omega)).2 HW3.out.tab).mono ?_
        clear f0 f1 f2 f3 f4 f5 f6
        rintro y w4 ⟨rfl, hb⟩
        rw [HGET.out]
        have HW4 := Aside0.mk (HW3.out.below hb)
        clear hb
        have HE : Aside0 (EndAt w (w4.alloc (.cells #[.int .u64 (S i).key, .int .i64 (S i).depth, .int .i64 (S i).score, .int .i64 (S i).sure, .int .i64 (S i).frm, .int .i64 (S i).dest] 40)) w4.heap.size g (o + i * 6) (S i) (S i) (putT T 0 (S i)) 1) := ⟨⟨by simp, by simp, by simp, by simp, by simp, by simp, by simp⟩, (HS.out i (by omega)).1.below (HS.out i (by omega)).1.1 (Nat.le_refl _) (below_alloc HW4.out.bel _), HW4.out.below (below_alloc (Below.refl _ _) _)⟩
        obtain ⟨⟨y0, y1, y2, y3, y4, y5, y6⟩, ⟨f0, f1, f2, f3, f4, f5, f6⟩, _⟩ := HE.out
        go_wp2_with fail
        go_region_held3 (fun W => W.cell? ⟨w4.heap.size, 0, none⟩ = some (.int .u64 (S i).key) ∧ W.cell? ⟨w4.heap.size, 1, none⟩ = some (.int .i64 (S i).depth) ∧ W.cell? ⟨w4.heap.size, 2, none⟩ = some (.int .i64 (S i).score) ∧ W.cell? ⟨w4.heap.size, 3, none⟩ = some (.int .i64 (S i).sure) ∧ W.cell? ⟨w4.heap.size, 4, none⟩ = some (.int .i64 (S i).frm) ∧ W.cell? ⟨w4.heap.size, 5, none⟩ = some (.int .i64 (S i).dest) ∧
            W.cell? ⟨g, o + i * 6, none⟩ = some (.int .u64 (S i).key) ∧ W.cell? ⟨g, o + i * 6 + 1, none⟩ = some (.int .i64 (S i).depth) ∧ W.cell? ⟨g, o + i * 6 + 2, none⟩ = some (.int .i64 (S i).score) ∧ W.cell? ⟨g, o + i * 6 + 3, none⟩ = some (.int .i64 (S i).sure) ∧ W.cell? ⟨g, o + i * 6 + 4, none⟩ = some (.int .i64 (S i).frm) ∧ W.cell? ⟨g, o + i * 6 + 5, none⟩ = some (.int .i64 (S i).dest))
          (go_keep)
          (first
            | (go_at_call 10; refine (own_walk _ (S i)).mono ?_; rintro y w5 ⟨rfl, hb⟩; have HE5 := Aside0.mk (HE.out.drew.below hb); obtain ⟨⟨z0, z1, z2, z3, z4, z5, z6⟩, ⟨g0, g1, g2, g3, g4, g5, g6⟩, _⟩ := HE5.out; clear hb)
            | (go_at_call 17; refine (count_walk _ _ _ 1 1 _ HE5.out.2.2.tab).mono ?_; rintro y w6 ⟨rfl, ⟨q6, rfl⟩⟩))
        clear y0 y1 y2 y3 y4 y5 y6 f0 f1 f2 f3 f4 f5 f6 z0 z1 z2 z3 z4 z5 z6 g0 g1 g2 g3 g4 g5 g6
        go_wp2_with fail
        go_roundg (len - (i + 1))
        case measure => have := HG.out; omega
        case rel => exact ⟨i + 1, (i : Int), (putT T 0 (S i)), 1, rfl, by go_num, by have := HG.out; omega, ⟨.inr ⟨i, by omega, rfl, HTT.out, rfl⟩⟩, ⟨HE5.out.2.2.drewN q6⟩⟩
      cases x0 : ((S j).key == (S i).key)
      case true =>
        have x00 : ((S j).key != (S i).key) = false := by simp [bne, x0]
        have HP := Aside0.mk (show putF T 1 1 (S i) = (true, putT T 0 (S i), 1) by unfold putF; rw [hs0, hs1, slotN_one, hT]; simp [x0])
        have HTT := Aside0.mk (show (putT T 0 (S i)) 0 = some (S i) by simp [putT])
        have HGET := Aside0.mk (show getF (putT T 0 (S i)) 1 (S i).key = (S i, true) by unfold getF; rw [slotN_one, HTT.out]; simp)
        have hx := (HS.out j (by omega)).1.below (HS.out j (by omega)).1.1 (Nat.le_refl _) HW.out.bel
        have hj0 : 0 ≤ (j : Int) := by omega
        have hj1 : (j : Int) < (len : Int) := by omega
        obtain ⟨f0, f1, f2, f3, f4, f5, f6⟩ := hx
        clear hT hbad
        go_wp2_with fail
        go_quiet (fail)
        go_wp2_with fail
        refine (own_walk _ _).mono ?_
        rintro y w2 ⟨rfl, hb⟩
        have HW2 := Aside0.mk (HW.out.below ((pw_below_drewN (below_alloc (Below.refl wr.heap.size wr) _) nq).trans (hb.mono (by simp))))
        clear hb e0 e1 e2 e3 e4 e5 e6 f0 f1 f2 f3 f4 f5 f6
        go_wp2_with fail
        refine (HO.out _ HW2.out).mono ?_
        rw [HP.out]
        rintro y w3 ⟨rfl, hw⟩
        have HW3 := Aside0.mk (show OneAt w w3 (putT T 0 (S i)) 1 from hw)
        clear hw
        have hx := (HS.out i (by omega)).1.below (HS.out i (by omega)).1.1 (Nat.le_refl _) HW3.out.bel
        have hk0 : 0 ≤ (i : Int) := by omega
        have hk1 : (i : Int) < (len : Int) := by omega
        obtain ⟨f0, f1, f2, f3, f4, f5, f6⟩ := hx
        go_wp2_with fail
        refine (get_walk _ _ _ 1 1 _ (S i).key (HS.out i (by omega)).2 HW3.out.tab).mono ?_
        clear f0 f1 f2 f3 f4 f5 f6
        rintro y w4 ⟨rfl, hb⟩
        rw [HGET.out]
        have HW4 := Aside0.mk (HW3.out.below hb)
        clear hb
        have HE : Aside0 (EndAt w (w4.alloc (.cells #[.int .u64 (S i).key, .int .i64 (S i).depth, .int .i64 (S i).score, .int .i64 (S i).sure, .int .i64 (S i).frm, .int .i64 (S i).dest] 40)) w4.heap.size g (o + i * 6) (S i) (S i) (putT T 0 (S i)) 1) := ⟨⟨by simp, by simp, by simp, by simp, by simp, by simp, by simp⟩, (HS.out i (by omega)).1.below (HS.out i (by omega)).1.1 (Nat.le_refl _) (below_alloc HW4.out.bel _), HW4.out.below (below_alloc (Below.refl _ _) _)⟩
        obtain ⟨⟨y0, y1, y2, y3, y4, y5, y6⟩, ⟨f0, f1, f2, f3, f4, f5, f6⟩, _⟩ := HE.out
        go_wp2_with fail
        go_region_held3 (fun W => W.cell? ⟨w4.heap.size, 0, none⟩ = some (.int .u64 (S i).key) ∧ W.cell? ⟨w4.heap.size, 1, none⟩ = some (.int .i64 (S i).depth) ∧ W.cell? ⟨w4.heap.size, 2, none⟩ = some (.int .i64 (S i).score) ∧ W.cell? ⟨w4.heap.size, 3, none⟩ = some (.int .i64 (S i).sure) ∧ W.cell? ⟨w4.heap.size, 4, none⟩ = some (.int .i64 (S i).frm) ∧ W.cell? ⟨w4.heap.size, 5, none⟩ = some (.int .i64 (S i).dest) ∧
            W.cell? ⟨g, o + i * 6, none⟩ = some (.int .u64 (S i).key) ∧ W.cell? ⟨g, o + i * 6 + 1, none⟩ = some (.int .i64 (S i).depth) ∧ W.cell? ⟨g, o + i * 6 + 2, none⟩ = some (.int .i64 (S i).score) ∧ W.cell? ⟨g, o + i * 6 + 3, none⟩ = some (.int .i64 (S i).sure) ∧ W.cell? ⟨g, o + i * 6 + 4, none⟩ = some (.int .i64 (S i).frm) ∧ W.cell? ⟨g, o + i * 6 + 5, none⟩ = some (.int .i64 (S i).dest))
          (go_keep)
          (first
            | (go_at_call 10; refine (own_walk _ (S i)).mono ?_; rintro y w5 ⟨rfl, hb⟩; have HE5 := Aside0.mk (HE.out.drew.below hb); obtain ⟨⟨z0, z1, z2, z3, z4, z5, z6⟩, ⟨g0, g1, g2, g3, g4, g5, g6⟩, _⟩ := HE5.out; clear hb)
            | (go_at_call 17; refine (count_walk _ _ _ 1 1 _ HE5.out.2.2.tab).mono ?_; rintro y w6 ⟨rfl, ⟨q6, rfl⟩⟩))
        clear y0 y1 y2 y3 y4 y5 y6 f0 f1 f2 f3 f4 f5 f6 z0 z1 z2 z3 z4 z5 z6 g0 g1 g2 g3 g4 g5 g6
        go_wp2_with fail
        go_roundg (len - (i + 1))
        case measure => have := HG.out; omega
        case rel => exact ⟨i + 1, (i : Int), (putT T 0 (S i)), 1, rfl, by go_num, by have := HG.out; omega, ⟨.inr ⟨i, by omega, rfl, HTT.out, rfl⟩⟩, ⟨HE5.out.2.2.drewN q6⟩⟩
      case false =>
        have x00 : ((S j).key != (S i).key) = true := by simp [bne, x0]
        cases x1 : decide ((S i).depth < (S j).depth)
        case true =>
          have HP := Aside0.mk (show putF T 1 1 (S i) = (false, T, 1) by unfold putF; rw [hs0, hs1, slotN_one, hT]; simp [x0, x1])
          have HTT := Aside0.mk (show T 0 = some (S j) by exact hT)
          have HGET := Aside0.mk (show getF T 1 (S j).key = (S j, true) by unfold getF; rw [slotN_one, HTT.out]; simp)
          have hx := (HS.out j (by omega)).1.below (HS.out j (by omega)).1.1 (Nat.le_refl _) HW.out.bel
          have hj0 : 0 ≤ (j : Int) := by omega
          have hj1 : (j : Int) < (len : Int) := by omega
          obtain ⟨f0, f1, f2, f3, f4, f5, f6⟩ := hx
          clear hT hbad
          go_wp2_with fail
          go_quiet (fail)
          go_wp2_with fail
          refine (own_walk _ _).mono ?_
          rintro y w2 ⟨rfl, hb⟩
          have HW2 := Aside0.mk (HW.out.below ((pw_below_drewN (below_alloc (Below.refl wr.heap.size wr) _) nq).trans (hb.mono (by simp))))
          clear hb e0 e1 e2 e3 e4 e5 e6 f0 f1 f2 f3 f4 f5 f6
          go_wp2_with fail
          refine (HO.out _ HW2.out).mono ?_
          rw [HP.out]
          rintro y w3 ⟨rfl, hw⟩
          have HW3 := Aside0.mk (show OneAt w w3 T 1 from hw)
          clear hw
          have hx := (HS.out j (by omega)).1.below (HS.out j (by omega)).1.1 (Nat.le_refl _) HW3.out.bel
          have hk0 : 0 ≤ (j : Int) := by omega
          have hk1 : (j : Int) < (len : Int) := by omega
          obtain ⟨f0, f1, f2, f3, f4, f5, f6⟩ := hx
          go_wp2_with fail
          refine (get_walk _ _ _ 1 1 _ (S j).key (HS.out j (by omega)).2 HW3.out.tab).mono ?_
          clear f0 f1 f2 f3 f4 f5 f6
          rintro y w4 ⟨rfl, hb⟩
          rw [HGET.out]
          have HW4 := Aside0.mk (HW3.out.below hb)
          clear hb
          have HE : Aside0 (EndAt w (w4.alloc (.cells #[.int .u64 (S j).key, .int .i64 (S j).depth, .int .i64 (S j).score, .int .i64 (S j).sure, .int .i64 (S j).frm, .int .i64 (S j).dest] 40)) w4.heap.size g (o + j * 6) (S j) (S j) T 1) := ⟨⟨by simp, by simp, by simp, by simp, by simp, by simp, by simp⟩, (HS.out j (by omega)).1.below (HS.out j (by omega)).1.1 (Nat.le_refl _) (below_alloc HW4.out.bel _), HW4.out.below (below_alloc (Below.refl _ _) _)⟩
          obtain ⟨⟨y0, y1, y2, y3, y4, y5, y6⟩, ⟨f0, f1, f2, f3, f4, f5, f6⟩, _⟩ := HE.out
          go_wp2_with fail
          go_region_held3 (fun W => W.cell? ⟨w4.heap.size, 0, none⟩ = some (.int .u64 (S j).key) ∧ W.cell? ⟨w4.heap.size, 1, none⟩ = some (.int .i64 (S j).depth) ∧ W.cell? ⟨w4.heap.size, 2, none⟩ = some (.int .i64 (S j).score) ∧ W.cell? ⟨w4.heap.size, 3, none⟩ = some (.int .i64 (S j).sure) ∧ W.cell? ⟨w4.heap.size, 4, none⟩ = some (.int .i64 (S j).frm) ∧ W.cell? ⟨w4.heap.size, 5, none⟩ = some (.int .i64 (S j).dest) ∧
              W.cell? ⟨g, o + j * 6, none⟩ = some (.int .u64 (S j).key) ∧ W.cell? ⟨g, o + j * 6 + 1, none⟩ = some (.int .i64 (S j).depth) ∧ W.cell? ⟨g, o + j * 6 + 2, none⟩ = some (.int .i64 (S j).score) ∧ W.cell? ⟨g, o + j * 6 + 3, none⟩ = some (.int .i64 (S j).sure) ∧ W.cell? ⟨g, o + j * 6 + 4, none⟩ = some (.int .i64 (S j).frm) ∧ W.cell? ⟨g, o + j * 6 + 5, none⟩ = some (.int .i64 (S j).dest))
            (go_keep)
            (first
              | (go_at_call 10; refine (own_walk _ (S j)).mono ?_; rintro y w5 ⟨rfl, hb⟩; have HE5 := Aside0.mk (HE.out.drew.below hb); obtain ⟨⟨z0, z1, z2, z3, z4, z5, z6⟩, ⟨g0, g1, g2, g3, g4, g5, g6⟩, _⟩ := HE5.out; clear hb)
              | (go_at_call 17; refine (count_walk _ _ _ 1 1 _ HE5.out.2.2.tab).mono ?_; rintro y w6 ⟨rfl, ⟨q6, rfl⟩⟩))
          clear y0 y1 y2 y3 y4 y5 y6 f0 f1 f2 f3 f4 f5 f6 z0 z1 z2 z3 z4 z5 z6 g0 g1 g2 g3 g4 g5 g6
          go_wp2_with fail
          go_roundg (len - (i + 1))
          case measure => have := HG.out; omega
          case rel => exact ⟨i + 1, (j : Int), T, 1, rfl, by go_num, by have := HG.out; omega, ⟨.inr ⟨j, by omega, rfl, HTT.out, rfl⟩⟩, ⟨HE5.out.2.2.drewN q6⟩⟩
        case false =>
          have HP := Aside0.mk (show putF T 1 1 (S i) = (true, putT T 0 (S i), 1) by unfold putF; rw [hs0, hs1, slotN_one, hT]; simp [x0, x1])
          have HTT := Aside0.mk (show (putT T 0 (S i)) 0 = some (S i) by simp [putT])
          have HGET := Aside0.mk (show getF (putT T 0 (S i)) 1 (S i).key = (S i, true) by unfold getF; rw [slotN_one, HTT.out]; simp)
          have hx := (HS.out j (by omega)).1.below (HS.out j (by omega)).1.1 (Nat.le_refl _) HW.out.bel
          have hj0 : 0 ≤ (j : Int) := by omega
          have hj1 : (j : Int) < (len : Int) := by omega
          obtain ⟨f0, f1, f2, f3, f4, f5, f6⟩ := hx
          clear hT hbad
          go_wp2_with fail
          go_quiet (fail)
          go_wp2_with fail
          refine (own_walk _ _).mono ?_
          rintro y w2 ⟨rfl, hb⟩
          have HW2 := Aside0.mk (HW.out.below ((pw_below_drewN (below_alloc (Below.refl wr.heap.size wr) _) nq).trans (hb.mono (by simp))))
          clear hb e0 e1 e2 e3 e4 e5 e6 f0 f1 f2 f3 f4 f5 f6
          go_wp2_with fail
          refine (HO.out _ HW2.out).mono ?_
          rw [HP.out]
          rintro y w3 ⟨rfl, hw⟩
          have HW3 := Aside0.mk (show OneAt w w3 (putT T 0 (S i)) 1 from hw)
          clear hw
          have hx := (HS.out i (by omega)).1.below (HS.out i (by omega)).1.1 (Nat.le_refl _) HW3.out.bel
          have hk0 : 0 ≤ (i : Int) := by omega
          have hk1 : (i : Int) < (len : Int) := by omega
          obtain ⟨f0, f1, f2, f3, f4, f5, f6⟩ := hx
          go_wp2_with fail
          refine (get_walk _ _ _ 1 1 _ (S i).key (HS.out i (by omega)).2 HW3.out.tab).mono ?_
          clear f0 f1 f2 f3 f4 f5 f6
          rintro y w4 ⟨rfl, hb⟩
          rw [HGET.out]
          have HW4 := Aside0.mk (HW3.out.below hb)
          clear hb
          have HE : Aside0 (EndAt w (w4.alloc (.cells #[.int .u64 (S i).key, .int .i64 (S i).depth, .int .i64 (S i).score, .int .i64 (S i).sure, .int .i64 (S i).frm, .int .i64 (S i).dest] 40)) w4.heap.size g (o + i * 6) (S i) (S i) (putT T 0 (S i)) 1) := ⟨⟨by simp, by simp, by simp, by simp, by simp, by simp, by simp⟩, (HS.out i (by omega)).1.below (HS.out i (by omega)).1.1 (Nat.le_refl _) (below_alloc HW4.out.bel _), HW4.out.below (below_alloc (Below.refl _ _) _)⟩
          obtain ⟨⟨y0, y1, y2, y3, y4, y5, y6⟩, ⟨f0, f1, f2, f3, f4, f5, f6⟩, _⟩ := HE.out
          go_wp2_with fail
          go_region_held3 (fun W => W.cell? ⟨w4.heap.size, 0, none⟩ = some (.int .u64 (S i).key) ∧ W.cell? ⟨w4.heap.size, 1, none⟩ = some (.int .i64 (S i).depth) ∧ W.cell? ⟨w4.heap.size, 2, none⟩ = some (.int .i64 (S i).score) ∧ W.cell? ⟨w4.heap.size, 3, none⟩ = some (.int .i64 (S i).sure) ∧ W.cell? ⟨w4.heap.size, 4, none⟩ = some (.int .i64 (S i).frm) ∧ W.cell? ⟨w4.heap.size, 5, none⟩ = some (.int .i64 (S i).dest) ∧
              W.cell? ⟨g, o + i * 6, none⟩ = some (.int .u64 (S i).key) ∧ W.cell? ⟨g, o + i * 6 + 1, none⟩ = some (.int .i64 (S i).depth) ∧ W.cell? ⟨g, o + i * 6 + 2, none⟩ = some (.int .i64 (S i).score) ∧ W.cell? ⟨g, o + i * 6 + 3, none⟩ = some (.int .i64 (S i).sure) ∧ W.cell? ⟨g, o + i * 6 + 4, none⟩ = some (.int .i64 (S i).frm) ∧ W.cell? ⟨g, o + i * 6 + 5, none⟩ = some (.int .i64 (S i).dest))
            (go_keep)
            (first
              | (go_at_call 10; refine (own_walk _ (S i)).mono ?_; rintro y w5 ⟨rfl, hb⟩; have HE5 := Aside0.mk (HE.out.drew.below hb); obtain ⟨⟨z0, z1, z2, z3, z4, z5, z6⟩, ⟨g0, g1, g2, g3, g4, g5, g6⟩, _⟩ := HE5.out; clear hb)
              | (go_at_call 17; refine (count_walk _ _ _ 1 1 _ HE5.out.2.2.tab).mono ?_; rintro y w6 ⟨rfl, ⟨q6, rfl⟩⟩))
          clear y0 y1 y2 y3 y4 y5 y6 f0 f1 f2 f3 f4 f5 f6 z0 z1 z2 z3 z4 z5 z6 g0 g1 g2 g3 g4 g5 g6
          go_wp2_with fail
          go_roundg (len - (i + 1))
          case measure => have := HG.out; omega
          case rel => exact ⟨i + 1, (i : Int), (putT T 0 (S i)), 1, rfl, by go_num, by have := HG.out; omega, ⟨.inr ⟨i, by omega, rfl, HTT.out, rfl⟩⟩, ⟨HE5.out.2.2.drewN q6⟩⟩
end Go.Proofs.Ytojklhlcoakieaa.P
