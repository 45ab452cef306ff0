/- Walks and plain laws that several statements lean on, joined: no statement of the seat is proved here. -/
import Derived.Test.YtgmlojocafepiaaGreatDoorB12
import Derived.Test.YtgmlojocafepiaaGreatDoorB9

/- Plain law of GameHalf, GameBack: the way on and the way back. -/
namespace Go.Proofs.YtgmlojocafepiaaGreatDoor.K
open Go.RowKit Go.Lib Go.Proofs.YtgmlojocafepiaaGreatDoorW.PrintWords Go.Proofs.YtgmlojocafepiaaGreatDoor.Sp
set_option linter.unusedVariables false
set_option linter.unusedSimpArgs false
/-- What a move does to a game's tale. -/
theorem Plays.made {ps : List Pos} {us : List Und} {now : Pos} {m : Mvi} (h : Plays ps us now) : ((stepMake now us m).1 = 0 ∧ Plays (ps ++ [now]) (stepMake now us m).2.2 (stepMake now us m).2.1 ∧ (stepMake now us m).2.2.length = us.length + 1) ∨ ((stepMake now us m).1 ≠ 0 ∧ (stepMake now us m).2 = (now, us)) := by
  have hw := h.well
  unfold stepMake
  by_cases h1 : us.length = 1024
  · rw [if_pos h1]
    exact .inr ⟨by simp, rfl⟩
  rw [if_neg h1]
  by_cases h2 : (makeP now m).2.2 ≠ 0
  · rw [if_pos h2]
    exact .inr ⟨by simp, rfl⟩
  rw [if_neg h2]
  have h0 : (makeP now m).2.2 = 0 := by simpa using h2
  obtain ⟨_, hs⟩ := make_err.1 h0
  obtain ⟨a, b, rfl⟩ := safe_form hw hs
  rcases hm : makeP now ⟨(a : Int), (b : Int)⟩ with ⟨q, c, er⟩
  rw [hm] at h0
  simp only at h0
  subst h0
  exact .inl ⟨rfl, Plays.snoc (u := ⟨(a, b), c, now.clock, now.full⟩) h hw hs hm rfl rfl, by simp⟩
/-- Each step of a game's tale, on and back. -/
theorem Plays.step {ps : List Pos} {us : List Und} {q : Pos} (h : Plays ps us q) (j : Nat) (hj : j < us.length) : ∃ p p', (ps ++ [q])[j]? = some p ∧ (ps ++ [q])[j + 1]? = some p' ∧ wellS p = 0 ∧ OkMv p p' us[j].mv us[j].tk ∧ makeP p (mviOf us[j].mv) = (p', us[j].tk, 0) ∧ us[j].ck = p.clock ∧ us[j].fl = p.full := by
  induction h with
  | nil => simp at hj
  | @snoc ps us p q u hp hw hs hm hc hf ih =>
    have hl := hp.len
    by_cases h1 : j < us.length
    · obtain ⟨x, y, a1, a2, a3⟩ := ih h1
      refine ⟨x, y, ?_, ?_, ?_⟩
      · rw [List.getElem?_append_left (by simp; omega)]; exact a1
      · rw [List.getElem?_append_left (by simp; omega)]; exact a2
      · rw [List.getElem_append_left h1]; exact a3
    · have hj2 : j = us.length := by simp at hj; omega
      subst hj2
      refine ⟨p, q, ?_, ?_, hw, ?_⟩
      · rw [List.getElem?_append_left (by simp; omega), List.getElem?_append_right (by omega)]; simp [hl]
      · rw [List.getElem?_append_right (by simp; omega)]; simp [hl]
      · simp only [List.getElem_concat_length]
        exact ⟨okMv hw hs hm, hm, hc, hf⟩
/-- A step made once more is the same step. -/
theorem Plays.again {ps : List Pos} {us : List Und} {q : Pos} (h : Plays ps us q) (hl : us.length ≤ 1024) (j : Nat) (hj : j < us.length) : ∃ p p', (ps ++ [q])[j]? = some p ∧ (ps ++ [q])[j + 1]? = some p' ∧ stepMake p (us.take j) (mviOf us[j].mv) = (0, p', us.take (j + 1)) := by
  obtain ⟨p, p', a1, a2, hw, _, hm, hc, hf⟩ := h.step j hj
  refine ⟨p, p', a1, a2, ?_⟩
  unfold stepMake
  rw [if_neg (by rw [List.length_take]; omega), hm, if_neg (by simp), ← hc, ← hf]
  have e := List.take_succ_eq_append_getElem hj
  rw [e]
  rfl
end Go.Proofs.YtgmlojocafepiaaGreatDoor.K

/- A row of moves and a position's box beside a game that is played on. -/
namespace Go.Proofs.YtgmlojocafepiaaGreatDoor.K
open Go.RowKit Go.Lib Go.Proofs.YtgmlojocafepiaaGreatDoorW.PrintWords Go.Proofs.YtgmlojocafepiaaGreatDoor.Sp
set_option linter.unusedVariables false
set_option linter.unusedSimpArgs false
/-- A row of moves outside the game's blocks. -/
structure R9 (W : World) (S : Nat → Prop) (B : Nat) (v : Value) (l : List Mv) : Prop where
  row : MvAt W B v l
  n : ∀ g, v.ownBlock = some g → ¬ S g ∧ g < W.heap.size
section
variable {W W' : World} {S : Nat → Prop} {B b : Nat} {v : Value} {l : List Mv} {p : Pos}
theorem R9.ken {T : Nat → Prop} (h : R9 W S B v l) (hk : Ken S W W') (hs : ∀ g, g < W.heap.size → T g → S g) : R9 W' T B v l := by
  obtain ⟨A, cap, hv, hx⟩ := h.row.out
  refine ⟨⟨A, cap, hv, ?_⟩, fun g hg => ⟨fun ht => (h.n g hg).1 (hs g (h.n g hg).2 ht), Nat.lt_of_lt_of_le (h.n g hg).2 hk.size⟩⟩
  rcases hx with hx | ⟨g, hA, hB, hlt, hx⟩
  · exact .inl hx
  · have hn := (h.n g (by rw [hv, hA]; rfl)).1
    exact .inr ⟨g, hA, hB, Nat.lt_of_lt_of_le hlt hk.size, fun i hi => ⟨hk.cell (hx i hi).1 hn, hk.cell (hx i hi).2 hn⟩⟩
theorem R9.same (h : R9 W S B v l) (hk : Ken S W W') : R9 W' S B v l := h.ken hk (fun _ _ ht => ht)
theorem R9.made (h : R9 W S B v l) (hk : Ken S W W') : R9 W' (andNew S W W') B v l := h.ken hk (fun g hg ht => ht.elim id (fun h2 => by omega))
theorem R9.below (h : R9 W S B v l) (hb : Below W.heap.size W W') : R9 W' S B v l :=
  ⟨h.row.below hb, fun g hg => ⟨(h.n g hg).1, Nat.lt_of_lt_of_le (h.n g hg).2 hb.size⟩⟩
/-- A position's box outside the game's blocks. -/
structure P9 (W : World) (S : Nat → Prop) (b : Nat) (p : Pos) : Prop where
  bx : BoxP W b p
  n : ¬ S b
theorem P9.ken {T : Nat → Prop} (h : P9 W S b p) (hk : Ken S W W') (hs : b < W.heap.size → T b → S b) : P9 W' T b p :=
  ⟨⟨hk.cell h.bx.c0 h.n, hk.cell h.bx.c1 h.n, hk.cell h.bx.c2 h.n, hk.cell h.bx.c3 h.n⟩, fun ht => h.n (hs (World.block_lt_of_cell? W ⟨b, 0, none⟩ h.bx.c0) ht)⟩
theorem P9.same (h : P9 W S b p) (hk : Ken S W W') : P9 W' S b p := h.ken hk (fun _ ht => ht)
theorem P9.made (h : P9 W S b p) (hk : Ken S W W') : P9 W' (andNew S W W') b p := h.ken hk (fun hg ht => ht.elim id (fun h2 => by omega))
theorem P9.below (h : P9 W S b p) (hb : Below W.heap.size W W') : P9 W' S b p := ⟨h.bx.below hb, h.n⟩
end
end Go.Proofs.YtgmlojocafepiaaGreatDoor.K

/- Ways on and back along a game's tale; rows beside a game. -/
namespace Go.Proofs.YtgmlojocafepiaaGreatDoor.K
open Go.RowKit Go.Lib Go.Proofs.YtgmlojocafepiaaGreatDoorW.PrintWords Go.Proofs.YtgmlojocafepiaaGreatDoor.Sp
set_option linter.unusedVariables false
set_option linter.unusedSimpArgs false
theorem Plays.down {ps : List Pos} {us : List Und} {q0 : Pos} (h : Plays ps us q0) (j : Nat) (hj : j < us.length) {q : Pos} (hq : (ps ++ [q0])[j + 1]? = some q) : ∃ p, (ps ++ [q0])[j]? = some p ∧ OkMv p q us[j].mv us[j].tk ∧ us[j].ck = p.clock ∧ us[j].fl = p.full := by
  obtain ⟨p, p', a1, a2, _, a3, _, a4, a5⟩ := h.step j hj
  rw [hq] at a2
  obtain rfl := Option.some.inj a2
  exact ⟨p, a1, a3, a4, a5⟩
theorem Plays.up {ps : List Pos} {us : List Und} {q0 : Pos} (h : Plays ps us q0) (hl : us.length ≤ 1024) (j : Nat) (hj : j < us.length) {q : Pos} (hq : (ps ++ [q0])[j]? = some q) : ∃ p', (ps ++ [q0])[j + 1]? = some p' ∧ wellS q = 0 ∧ stepMake q (us.take j) (mviOf us[j].mv) = (0, p', us.take (j + 1)) := by
  obtain ⟨p, p', a1, a2, a3⟩ := h.again hl j hj
  obtain ⟨p2, _, b1, _, b3, _⟩ := h.step j hj
  rw [hq] at a1 b1
  obtain rfl := Option.some.inj a1
  obtain rfl := Option.some.inj b1
  exact ⟨p', a2, b3, a3⟩
theorem Plays.top {ps : List Pos} {us : List Und} {q0 : Pos} (h : Plays ps us q0) : (ps ++ [q0])[us.length]? = some q0 := by
  rw [← h.len, List.getElem?_append_right (Nat.le_refl _)]; simp
theorem take_next (us : List Und) (j : Nat) (hj : j < us.length) : us.take (j + 1) = us.take j ++ [us[j]] := List.take_succ_eq_append_getElem hj
/-- The first of a game's positions stays the first. -/
theorem Plays.first {ps : List Pos} {us : List Und} {q0 : Pos} (h : Plays ps us q0) {p : Pos} (hp : (ps ++ [q0])[0]? = some p) (q : Pos) : (ps ++ [q0] ++ [q])[0]? = some p := by
  rw [List.getElem?_append_left (by simp)]; exact hp
theorem R9.of {W : World} {S : Nat → Prop} {B : Nat} {v : Value} {l : List Mv} (ho : OwnM W B v l) (hS : ∀ k, S k → k < B) : R9 W S B v l := by
  refine ⟨ho.reads, fun g hg => ?_⟩
  obtain ⟨_, ⟨h2, _⟩ | ⟨g', cap, cur, hv, hb, hh, _⟩⟩ := ho
  · rw [h2] at hg; simp [Value.ownBlock] at hg
  · rw [hv] at hg
    obtain rfl : g' = g := by simpa [Value.ownBlock] using hg
    exact ⟨fun h => by have := hS _ h; omega, blk_lt hh⟩
theorem P9.new (W : World) (S : Nat → Prop) (q : Pos) (hS : ∀ k, S k → k < W.heap.size) : P9 (W.alloc (.cells #[.string q.cells, .int .i64 q.side, .int .i64 q.clock, .int .i64 q.full] 23)) S W.heap.size q :=
  ⟨BoxP.new W q, fun h => by have := hS _ h; omega⟩
end Go.Proofs.YtgmlojocafepiaaGreatDoor.K

/- GameHalf: the walk. -/
namespace Go.Proofs.YtgmlojocafepiaaGreatDoor.K
open Go.RowKit Go.Lib Go.Proofs.YtgmlojocafepiaaGreatDoorW.PrintWords Go.Proofs.YtgmlojocafepiaaGreatDoor.Sp
set_option linter.unusedVariables false
set_option linter.unusedSimpArgs false
/-- A game beside a row of moves and a position's box, at the j-th step of its tale. -/
structure H9 (w W : World) (S : Nat → Prop) (gb pb : Nat) (sv : Value) (q : Pos) (us us0 : List Und) (j B bn : Nat) (A : Option Addr) (cp : Nat) (L : List Pos) (now : Pos) : Prop where
  g : G9 w W S gb pb sv q us
  r : R9 W S B (.slice A us0.length cp) (mvU us0)
  b : P9 W S bn now
  us : us = us0.take j
  at_j : L[j]? = some q
section
variable {w W W' : World} {S : Nat → Prop} {gb pb : Nat} {sv sv' : Value} {q q' : Pos} {us us' us0 : List Und} {j j' B bn : Nat} {A : Option Addr} {cp : Nat} {L : List Pos} {now : Pos}
theorem H9.below (h : H9 w W S gb pb sv q us us0 j B bn A cp L now) (hb : Below W.heap.size W W') : H9 w W' S gb pb sv q us us0 j B bn A cp L now :=
  ⟨h.g.below hb, h.r.below hb, h.b.below hb, h.us, h.at_j⟩
theorem H9.drew (h : H9 w W S gb pb sv q us us0 j B bn A cp L now) : H9 w W.drew S gb pb sv q us us0 j B bn A cp L now := h.below (pw_below_drewN (Below.refl _ _) 1)
theorem H9.made (h : H9 w W S gb pb sv q us us0 j B bn A cp L now) (hk : Ken S W W') (hg : GmX W' (andNew S W W') gb pb sv' q' us') (e : us' = us0.take j') (hj : L[j']? = some q') : ∃ S', H9 w W' S' gb pb sv' q' us' us0 j' B bn A cp L now := by
  have hz := hk.size
  refine ⟨andNew S W W', ⟨hg, h.g.bel.trans (hk.toBelow h.g.bel.size (fun k hh => (h.g.up k hh).1)), fun k hh => ?_⟩, h.r.made hk, h.b.made hk, e, hj⟩
  have hl := h.g.bel.size
  rcases hh with hh | ⟨h1, h2⟩
  · have := h.g.up k hh; omega
  · omega
theorem H9.same (h : H9 w W S gb pb sv q us us0 j B bn A cp L now) (hk : Ken S W W') (hg : GmX W' S gb pb sv' q' us') (e : us' = us0.take j') (hj : L[j']? = some q') : H9 w W' S gb pb sv' q' us' us0 j' B bn A cp L now :=
  ⟨h.g.same hk hg, h.r.same hk, h.b.same hk, e, hj⟩
end
set_option maxRecDepth 100000 in
set_option maxHeartbeats 8000000 in
theorem gameHalfLaw (w : World) (p : Pos) (a : Option Addr) (n cap : Nat) (M : Nat → Mvi) (t : Int) (hmx : p.cells.size ≤ maxLen) (ha : MovesAt w a n M) (hT : TabW w) : Calls Tryz.prog 6 #[posV p, .slice a n cap, .int .i64 t] w fun e w' => e = .returned (.bool true) ∧ Below w.heap.size w w' := by
  have HT := Aside0.mk (fun (W : World) (hb : Below w.heap.size w W) => hT.below hb)
  have HLV := Aside0.mk (fun (W : World) (hT : TabW W) => live9_c W hT)
  have HM := Aside0.mk ha
  have hu := Tryz.underlying23
  have hu2 := Tryz.underlying32
  have HB0 := Aside0.mk (BoxP.new w p)
  have HL0 := Aside0.mk (below_alloc (Below.refl w.heap.size w) (.cells #[.string p.cells, .int .i64 p.side, .int .i64 p.clock, .int .i64 p.full] 23))
  by_cases hgd : 200 < p.cells.size ∨ 30 < n ∨ t < 0 ∨ 30 < t
  · rcases (show (200 : Int) < (p.cells.size : Int) ∨ (¬ (200 : Int) < (p.cells.size : Int) ∧ (30 : Int) < (n : Int)) ∨ (¬ (200 : Int) < (p.cells.size : Int) ∧ ¬ (30 : Int) < (n : Int) ∧ t < 0) ∨ (¬ (200 : Int) < (p.cells.size : Int) ∧ ¬ (30 : Int) < (n : Int) ∧ ¬ t < 0 ∧ 30 < t) by omega) with h1 | ⟨h1, h2⟩ | ⟨h1, h2, h3⟩ | ⟨h1, h2, h3, h4⟩
    all_goals
      clear hgd hmx hT ha
      go_enter Tryz.func6, Tryz.ntmps6
      go_wp2_with fail
      refine (HLV.out _ (HT.out _ HL0.out)).mono ?_
      rintro e w1 ⟨rfl, hb⟩
      have HW1 := Aside0.mk (below_go HL0.out hb)
      clear hb
      go_wp2_with fail
      go_ret
      exact ⟨rfl, HW1.out⟩
  have h1 : ¬ ((200 : Int) < (p.cells.size : Int)) := by omega
  have h2 : ¬ ((30 : Int) < (n : Int)) := by omega
  have h3 : ¬ (t < 0) := by omega
  have h4 : ¬ (30 < t) := by omega
  have HN := Aside0.mk (fun (W : World) (hT : TabW W) => gnew_c p W hT)
  unfold NewIs at HN
  by_cases hw : wellS p = 0
  case neg =>
    have HN2 : Aside0 (∀ (W : World), TabW W → Calls Tryz.prog 21 #[posV p] W fun e w' => e = .returned (.tuple #[.pointer none, .int .i64 (wellS p)]) ∧ Below W.heap.size W w') := ⟨fun W hT => (HN.out W hT).mono (fun e w' h => by rwa [if_pos hw] at h)⟩
    generalize hx : wellS p = x at *
    have hn : (x != 0) = true := by simpa using hw
    clear hx hw HN hgd hmx hT ha
    go_enter Tryz.func6, Tryz.ntmps6
    go_upto_region 1 with fail
    generalize w.alloc (.cells #[.string p.cells, .int .i64 p.side, .int .i64 p.clock, .int .i64 p.full] 23) = W1 at *
    obtain ⟨e0, e1, e2, e3⟩ := HB0.out
    go_wp2_with fail
    refine (HN2.out _ (HT.out _ HL0.out)).mono ?_
    rintro e w1 ⟨rfl, hb⟩
    have HW1 := Aside0.mk (below_go HL0.out hb)
    clear hb
    go_wp2_with fail
    refine (HLV.out _ (HT.out _ HW1.out)).mono ?_
    rintro e w2 ⟨rfl, hb⟩
    have HW2 := Aside0.mk (below_go HW1.out hb)
    clear hb
    go_wp2_with fail
    go_ret
    exact ⟨rfl, HW2.out⟩
  case pos =>
  have HN2 : Aside0 (∀ (W : World), TabW W → Calls Tryz.prog 21 #[posV p] W fun e w' => ∃ gb pb, e = .returned (.tuple #[.pointer (some ⟨gb, 0, none⟩), .int .i64 0]) ∧ GmX w' (newIn W w') gb pb (.slice none 0 0) p [] ∧ Below W.heap.size W w') := ⟨fun W hT => (HN.out W hT).mono (fun e w' h => by rwa [if_neg (by simpa using hw)] at h)⟩
  have HW := Aside0.mk hw
  have HN30 := Aside0.mk (show n ≤ 30 by omega)
  have HT30 := Aside0.mk (show 0 ≤ t ∧ t ≤ 30 by omega)
  clear HN hw hgd hmx hT ha
  go_enter Tryz.func6, Tryz.ntmps6
  go_upto_region 1 with fail
  generalize w.alloc (.cells #[.string p.cells, .int .i64 p.side, .int .i64 p.clock, .int .i64 p.full] 23) = W1 at *
  obtain ⟨e0, e1, e2, e3⟩ := HB0.out
  go_wp2_with fail
  refine (HN2.out _ (HT.out _ HL0.out)).mono ?_
  rintro e w1 ⟨gb, pb, rfl, hg, hb⟩
  have hz : w.heap.size ≤ W1.heap.size := HL0.out.size
  obtain ⟨S, H1⟩ : ∃ S, Aside0 (G9 w w1 S gb pb (.slice none 0 0) p []) := ⟨newIn W1 w1, ⟨⟨hg, below_go HL0.out hb, fun k hk => ⟨Nat.le_trans hz hk.1, hk.2⟩⟩⟩⟩
  clear hg hb e0 e1 e2 e3 HB0 HL0 HN2 hz h1 h2 h3 h4
  go_wp2_with fail
  go_loopg [9] n (fun gg s9 wr => ∃ (i : Nat) (S : Nat → Prop) (sv : Value) (now : Pos) (us : List Und) (ps : List Pos), s9 = .int .i64 (i : Int) ∧ i + gg = n ∧ Aside0 (G9 w wr S gb pb sv now us) ∧ Aside0 (Plays ps us now ∧ us.length ≤ i))
  case atStart => exact ⟨0, S, _, p, [], [], rfl, by omega, H1, ⟨⟨Plays.nil p HW.out, by simp⟩⟩⟩
  case round =>
    clear H1
    obtain ⟨i, S', sv, now, us, ps, rfl, hi, HX, HI⟩ := hrel
    cases gk with
    | succ g =>
      have hn : (i : Int) < (n : Int) := by omega
      have hib : (i : Int) ≤ 30 := by have := HN30.out; omega
      have HIN := Aside0.mk (show i + 1 + g = n by omega)
      obtain ⟨ga, o, rfl, hx⟩ := HM.out.resolve_left (by omega)
      have HMV := Aside0.mk (fun (W : World) (hb : Below w.heap.size w W) => (show W.cell? ⟨ga, o + i * 2, none⟩ = some (.int .i64 (M i).frm) ∧ W.cell? ⟨ga, o + i * 2 + 1, none⟩ = some (.int .i64 (M i).dest) from ⟨below_cell hb _ _ _ (hx i (by omega)).1, below_cell hb _ _ _ (hx i (by omega)).2⟩))
      clear hx hi
      have HPM := Aside0.mk (HI.out.1.made (m := M i))
      have HMKC := Aside0.mk (gmake_c S' gb pb sv now us (M i) wr HX.out.gm (HT.out _ HX.out.bel) HI.out.1.well (by have := HI.out.2; have := HN30.out; have := HIN.out; omega))
      unfold MadeIs at HMKC
      generalize stepMake now us (M i) = r at *
      obtain ⟨r1, q, us2⟩ := r
      simp only at HPM
      obtain ⟨x0, x1⟩ := HMV.out _ HX.out.bel
      go_wp2_with fail
      refine HMKC.out.mono ?_
      rintro e w4 ⟨sv4, rfl, hg, hk⟩
      obtain ⟨S4, H4⟩ := HX.out.made hk hg
      have H4 := Aside0.mk H4
      have HP4 : Aside0 (∃ ps2, Plays ps2 us2 q ∧ us2.length ≤ i + 1) := by
        rcases HPM.out with ⟨_, h2, h3⟩ | ⟨_, h2⟩
        · exact ⟨_, h2, by have := HI.out.2; omega⟩
        · simp only [Prod.mk.injEq] at h2
          obtain ⟨rfl, rfl⟩ := h2
          exact ⟨ps, HI.out.1, by have := HI.out.2; omega⟩
      obtain ⟨ps2, hp4⟩ := HP4.out
      have HP5 := Aside0.mk hp4
      clear hg hk x0 x1 hp4
      go_wp2_with fail
      go_roundg g
      case measure => omega
      case rel => exact ⟨i + 1, S4, _, q, us2, ps2, by go_num, HIN.out, H4, HP5⟩
    | zero =>
      have hn : ¬ ((i : Int) < (n : Int)) := by omega
      have HUL := Aside0.mk (show us.length ≤ 30 by have := HI.out.2; have := HN30.out; omega)
      have HPL := Aside0.mk HI.out.1
      clear hi HI
      go_wp2_with fail
      refine (gpast_c HX.out.gm (by have := HUL.out; omega)).mono ?_
      rintro e w2 ⟨v, rfl, ho, hb⟩
      have R2 : Aside0 (R9 w2 S' wr.heap.size v (mvU us)) := ⟨R9.of ho (fun k hk => (HX.out.up k hk).2)⟩
      have H2 := Aside0.mk (HX.out.below hb)
      obtain ⟨A, cp, hv⟩ := R2.out.row.form
      rw [show (mvU us).length = us.length by simp [mvU]] at hv
      subst hv
      clear hb ho HX
      generalize wr.heap.size = B at *
      go_wp2_with fail
      refine (gpos_c H2.out.gm).mono ?_
      rintro e w3 ⟨rfl, hb⟩
      have hnb : Below w3.heap.size w3 (w3.alloc (.cells #[.string now.cells, .int .i64 now.side, .int .i64 now.clock, .int .i64 now.full] 23)) := below_alloc (Below.refl _ _) _
      have HH : Aside0 (H9 w (w3.alloc (.cells #[.string now.cells, .int .i64 now.side, .int .i64 now.clock, .int .i64 now.full] 23)) S' gb pb sv now us us us.length B w3.heap.size A cp (ps ++ [now]) now) :=
        ⟨⟨(H2.out.below hb).below hnb, (R2.out.below hb).below hnb, P9.new w3 S' now (fun k hk => ((H2.out.below hb).up k hk).2), (List.take_length).symm, HPL.out.top⟩⟩
      clear hb hnb H2 R2
      go_upto_region 14 with fail
      generalize w3.alloc (.cells #[.string now.cells, .int .i64 now.side, .int .i64 now.clock, .int .i64 now.full] 23) = w4 at *
      generalize w3.heap.size = bn at *
      have hne : ((us.length : Int) != (us.length : Int)) = false := by simp
      obtain ⟨bk, hbk⟩ : ∃ bk : Nat, (bk : Int) = min t (us.length : Int) := ⟨(min t (us.length : Int)).toNat, by have := HT30.out; omega⟩
      have HBK := Aside0.mk (show bk ≤ us.length by omega)
      have hmin := hbk.symm
      clear hbk
      go_wp2_with fail
      refine (gplies_c HH.out.g.gm).mono ?_
      rintro e w5 ⟨rfl, rfl⟩
      go_wp2_with fail
      clear hmin
      go_loopg [13] bk (fun gg s13 wr => ∃ (i j : Nat) (sv : Value) (q : Pos) (us2 : List Und), s13 = .int .i64 (i : Int) ∧ i + gg = bk ∧ j + i = us.length ∧ Aside0 (H9 w wr S' gb pb sv q us2 us j B bn A cp (ps ++ [now]) now))
      case atStart => exact ⟨0, us.length, _, _, _, rfl, by omega, by omega, HH⟩
      case round =>
        clear HH
        obtain ⟨i2, j, sv2, q2, us2, rfl, hi, hj, HY⟩ := hrel
        cases gk with
        | succ g =>
          have hn2 : (i2 : Int) < (bk : Int) := by omega
          have hib2 : (i2 : Int) ≤ 30 := by have := HUL.out; omega
          have HI2 := Aside0.mk (show i2 + 1 + g = bk by omega)
          obtain ⟨k, rfl⟩ : ∃ k, j = k + 1 := ⟨j - 1, by have := HBK.out; omega⟩
          have hkl : k < us.length := by omega
          have HJ2 := Aside0.mk (show k + (i2 + 1) = us.length by omega)
          obtain ⟨pp, a1, a2, a3, a4⟩ := HPL.out.down k hkl HY.out.at_j
          have HUN := Aside0.mk (gunmake_c S' gb pb sv2 pp q2 (us.take k) us[k] wr (by have := HY.out.g.gm; rw [HY.out.us, take_next us k hkl] at this; exact this) a2 a3 a4 (by have := HUL.out; rw [List.length_take]; omega))
          have HA1 := Aside0.mk a1
          unfold UnIs at HUN
          clear a1 a2 a3 a4 hi hj hkl
          go_wp2_with fail
          refine HUN.out.mono ?_
          rintro e w6 ⟨sv6, rfl, hg, hk⟩
          have H6 := Aside0.mk (HY.out.same (j' := k) hk hg rfl HA1.out)
          clear hg hk HY HUN
          go_wp2_with fail
          go_roundg g
          case measure => omega
          case rel => exact ⟨i2 + 1, k, _, _, _, by go_num, HI2.out, HJ2.out, H6⟩
        | zero =>
          have hn2 : ¬ ((i2 : Int) < (bk : Int)) := by omega
          have hwr : IntKind.i64.wrap ((us.length : Int) - (bk : Int)) = (j : Int) := by have := HUL.out; have := HBK.out; rw [IntKind.wrap_i64]; omega
          have HJ := Aside0.mk (show j + bk = us.length by omega)
          clear hi hj
          go_wp2_with fail
          clear hwr hn2
          go_loopg [14] bk (fun gg s14 wr => ∃ (i : Nat) (S : Nat → Prop) (sv : Value) (q : Pos) (us2 : List Und), s14 = .int .i64 (i : Int) ∧ i + gg = us.length ∧ Aside0 (H9 w wr S gb pb sv q us2 us i B bn A cp (ps ++ [now]) now))
          case atStart => exact ⟨j, _, _, _, _, rfl, HJ.out, HY⟩
          case round =>
            clear HY HJ
            obtain ⟨i3, S3, sv3, q3, us3, rfl, hi, HY⟩ := hrel
            cases gk with
            | succ g =>
              have hn3 : (i3 : Int) < (us.length : Int) := by omega
              have hib3 : (i3 : Int) ≤ 30 := by have := HUL.out; omega
              have hil : i3 < us.length := by omega
              have HI3 := Aside0.mk (show i3 + 1 + g = us.length by omega)
              obtain ⟨g1, cap1, hA1, _, _, hx1⟩ := HY.out.r.row.at (fun h => by have := congrArg List.length h; simp [mvU] at this; rw [this] at hil; simp at hil)
              simp only [Value.slice.injEq] at hA1
              obtain ⟨rfl, -, rfl⟩ := hA1
              obtain ⟨x0, x1⟩ := hx1 i3 (by simpa [mvU] using hil)
              rw [show (mvU us)[i3]'(by simpa [mvU] using hil) = us[i3].mv by simp [mvU]] at x0 x1
              obtain ⟨p', a1, a2, a3⟩ := HPL.out.up (by have := HUL.out; omega) i3 hil HY.out.at_j
              obtain rfl := HY.out.us
              have HMK := Aside0.mk (gmake_c S3 gb pb sv3 q3 (us.take i3) (mviOf us[i3].mv) wr HY.out.g.gm (HT.out _ HY.out.g.bel) a2 (by have := HUL.out; rw [List.length_take]; omega))
              have HA1 := Aside0.mk a1
              unfold MadeIs at HMK
              rw [a3] at HMK
              generalize us[i3].mv = m at *
              obtain ⟨ma, mb⟩ := m
              simp only at x0 x1
              clear a1 a2 a3 hx1 hi hil
              go_wp2_with fail
              refine HMK.out.mono ?_
              rintro e w6 ⟨sv6, rfl, hg, hk⟩
              obtain ⟨S6, H6⟩ := HY.out.made (j' := i3 + 1) hk hg rfl HA1.out
              have H6 := Aside0.mk H6
              clear hg hk HY HMK x0 x1
              go_wp2_with fail
              go_roundg g
              case measure => omega
              case rel => exact ⟨i3 + 1, S6, _, _, _, by go_num, HI3.out, H6⟩
            | zero =>
              have hn3 : ¬ ((i3 : Int) < (us.length : Int)) := by omega
              obtain rfl : i3 = us.length := by omega
              obtain rfl : q3 = now := by have := HY.out.at_j; rw [HPL.out.top] at this; exact (Option.some.inj this).symm
              obtain rfl : us3 = us := by have := HY.out.us; rwa [List.take_length] at this
              clear hi
              obtain ⟨e0, e1, e2, e3⟩ := HY.out.b.bx
              have HX := Aside0.mk HY.out.drew
              go_wp2_with fail
              go_region_held3 (fun V => V.cell? ⟨bn, 0, none⟩ = some (.string q3.cells) ∧ V.cell? ⟨bn, 1, none⟩ = some (.int .i64 q3.side) ∧ V.cell? ⟨bn, 2, none⟩ = some (.int .i64 q3.clock) ∧ V.cell? ⟨bn, 3, none⟩ = some (.int .i64 q3.full)) (go_keep)
                (first
                  | (go_at_call 28; (with_reducible refine (gpos_c HX.out.g.gm).mono ?_); rintro e w11 ⟨rfl, hb⟩; have H11 := Aside0.mk (HX.out.below hb); clear HX hb e0 e1 e2 e3; obtain ⟨e0, e1, e2, e3⟩ := H11.out.b.bx)
                  | (go_at_call 31; (with_reducible refine (gpast_c H11.out.g.gm (by have := HUL.out; omega)).mono ?_); rintro e w12 ⟨v, rfl, ho, hb⟩; have H12 := Aside0.mk (H11.out.below hb); have HV := Aside0.mk ho.reads; obtain ⟨A12, cap12, rfl⟩ := row_form ho; rw [show (mvU us3).length = us3.length from by simp [mvU]] at HV; clear H11 hb ho e0 e1 e2 e3; obtain ⟨e0, e1, e2, e3⟩ := H12.out.b.bx)
                  | (go_at_call 20; (with_reducible refine (HLV.out _ (HT.out _ H13.out.g.bel)).mono ?_); rintro e w14 ⟨rfl, hb⟩; have H14 := Aside0.mk (H13.out.below hb); clear H13 hb e0 e1 e2 e3; obtain ⟨e0, e1, e2, e3⟩ := H14.out.b.bx)
                  | (go_at_call 30; (with_reducible refine (rsame_c (mvU us3) (by have := HUL.out; simp [mvU]; omega) _ _ _ _ _ HV.out H12.out.r.row).mono ?_); rintro e w13 ⟨rfl, hb⟩; have H13 := Aside0.mk (H12.out.below hb); clear H12 HV hb e0 e1 e2 e3; obtain ⟨e0, e1, e2, e3⟩ := H13.out.b.bx))
              all_goals
                go_wp2_with fail
                go_ret
                exact ⟨rfl, H14.out.g.bel⟩
end Go.Proofs.YtgmlojocafepiaaGreatDoor.K
