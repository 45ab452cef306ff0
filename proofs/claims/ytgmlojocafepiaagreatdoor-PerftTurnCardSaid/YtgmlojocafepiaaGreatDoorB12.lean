/- Walks and plain laws that several statements lean on, joined: no statement of the seat is proved here. -/
import Derived.Test.YtgmlojocafepiaaGreatDoorB10
import Derived.Test.YtgmlojocafepiaaGreatDoorB7
import Derived.Test.YtgmlojocafepiaaGreatDoorB11
import Derived.Test.YtgmlojocafepiaaGreatDoorB9

/- Plain law of GameSquares: how many pieces there are. -/
namespace Go.Proofs.YtgmlojocafepiaaGreatDoor.K
open Go.RowKit Go.Lib Go.Proofs.YtgmlojocafepiaaGreatDoorW.PrintWords Go.Proofs.YtgmlojocafepiaaGreatDoor.Sp
set_option linter.unusedVariables false
set_option linter.unusedSimpArgs false
/-- How many pieces. -/
def nP (s : ByteArray) : Nat := (piecesS s 0).length + (piecesS s 1).length
/-- How many squares are empty. -/
def nE (c : Nat → Nat) : Nat := (List.range 90).countP fun i => c i == 46
theorem count_three (f g h : Nat → Bool) (l : List Nat) (hl : ∀ x ∈ l, (f x = true ∧ g x = false ∧ h x = false) ∨ (f x = false ∧ g x = true ∧ h x = false) ∨ (f x = false ∧ g x = false ∧ h x = true)) : l.countP f + l.countP g + l.countP h = l.length := by
  induction l with
  | nil => rfl
  | cons x r ih =>
    have hr := ih (fun y hy => hl y (List.mem_cons_of_mem _ hy))
    rcases hl x (List.mem_cons_self ..) with ⟨h1, h2, h3⟩ | ⟨h1, h2, h3⟩ | ⟨h1, h2, h3⟩ <;> simp only [List.countP_cons, h1, h2, h3, List.length_cons, if_true, Bool.false_eq_true, if_false] <;> omega
theorem nP_nE {s : ByteArray} (hs : isBoard s = true) : nP s + nE (cel s) = 90 := by
  have h := count_three (fun i => decide ((0 : Int) ≤ 0) && decide (sideN (cel s i) = 0)) (fun i => decide ((0 : Int) ≤ 1) && decide (sideN (cel s i) = 1)) (fun i => cel s i == 46) (List.range 90) (fun x hx => by
    have hx : x < 90 := by simpa using hx
    have hn : sideN 46 = -1 := by decide
    rcases letter_side _ (board_cell hs hx) with ⟨h1, _⟩ | ⟨h0, h1⟩ | ⟨h0, h1⟩
    · right; right; simp [h1, hn]
    · left; simp [h1]; exact h0
    · right; left; simp [h1]; exact h0)
  unfold nP nE piecesS
  rw [if_pos hs, if_pos hs, ← List.countP_eq_length_filter, ← List.countP_eq_length_filter, h]
  simp
theorem count_set (n a : Nat) (f g : Nat → Bool) (ha : a < n) (h : ∀ i, i ≠ a → f i = g i) : (List.range n).countP f + (if g a = true then 1 else 0) = (List.range n).countP g + (if f a = true then 1 else 0) := by
  have key : ∀ n, n ≤ a → (List.range n).countP f = (List.range n).countP g := by
    intro n hn
    refine List.countP_congr fun x hx => ?_
    have : x < n := by simpa using hx
    rw [h x (by omega)]
  induction n with
  | zero => omega
  | succ n ih =>
    rw [List.range_succ, List.countP_append, List.countP_append, List.countP_singleton, List.countP_singleton]
    by_cases hn : n = a
    · subst hn
      rw [key n (Nat.le_refl _)]
      omega
    · have := ih (by omega)
      rw [h n hn]
      omega
theorem nE_set (c : Nat → Nat) (a v : Nat) (ha : a < 90) : nE (setC c a v) + (if c a = 46 then 1 else 0) = nE c + (if v = 46 then 1 else 0) := by
  have h := count_set 90 a (fun i => setC c a v i == 46) (fun i => c i == 46) ha (fun i hi => by unfold setC; rw [if_neg hi])
  have e : setC c a v a = v := by unfold setC; rw [if_pos rfl]
  simp only [e, beq_iff_eq] at h
  exact h
/-- A capture takes one away. -/
theorem OkMv.count {p q : Pos} {m : Mv} {c : Nat} (h : OkMv p q m c) : nP q.cells + (if c = 0 then 0 else 1) = nP p.cells := by
  have h1 := nP_nE h.bd
  have h2 := nP_nE h.qbd
  have e : nE (cel q.cells) = nE (moveC (cel p.cells) m.1 m.2) := by
    unfold nE
    refine List.countP_congr fun x hx => ?_
    have hx : x < 90 := by simpa using hx
    rw [h.qcel hx]
  have hl0 : cel p.cells m.2 ≠ 0 := by
    have hl : ∀ x ∈ letters, x ≠ 0 := by decide
    exact hl _ (board_cell h.bd h.b90)
  have hown : cel p.cells m.1 ≠ 46 := by
    intro h46
    have := h.own
    rw [h46, show sideN 46 = -1 from by decide] at this
    have := h.sd
    omega
  have s1 := nE_set (cel p.cells) m.2 (cel p.cells m.1) h.b90
  have s2 := nE_set (setC (cel p.cells) m.2 (cel p.cells m.1)) m.1 46 h.a90
  have e2 : setC (cel p.cells) m.2 (cel p.cells m.1) m.1 = cel p.cells m.1 := by unfold setC; rw [if_neg h.ne]
  rw [e2, if_neg hown, if_pos rfl] at s2
  rw [if_neg hown] at s1
  have e3 : nE (moveC (cel p.cells) m.1 m.2) = nE (setC (setC (cel p.cells) m.2 (cel p.cells m.1)) m.1 46) := rfl
  have ht := h.tk
  by_cases h46 : cel p.cells m.2 = 46
  · rw [if_pos h46] at s1 ht
    rw [if_pos ht]
    omega
  · rw [if_neg h46] at s1 ht
    rw [if_neg (by rw [ht]; exact hl0)]
    omega
end Go.Proofs.YtgmlojocafepiaaGreatDoor.K

/- Plain law of a game's round: the pieces' number, the clock. -/
namespace Go.Proofs.YtgmlojocafepiaaGreatDoor.K
open Go.RowKit Go.Lib Go.Proofs.YtgmlojocafepiaaGreatDoorW.PrintWords Go.Proofs.YtgmlojocafepiaaGreatDoor.Sp
set_option linter.unusedVariables false
set_option linter.unusedSimpArgs false
/-- The clock stands at nought behind a capture, and then alone. -/
theorem okMv_clock {p q : Pos} {m : Mv} {c : Nat} (hw : wellS p = 0) (hs : safeS p (mviOf m) = true) (hm : makeP p (mviOf m) = (q, c, 0)) : q.clock = 0 ↔ c ≠ 0 := by
  have hck := well_check hw
  have hgd := safe_is_good hck hs
  obtain ⟨hbd, hsd, hc0, _⟩ := argOk_yes (checkP_board hck)
  have hok := okMv hw hs hm
  have hb := hok.b90
  have hat : atS p.cells (m.2 : Int) = cel p.cells m.2 := by unfold atS; rw [if_pos ⟨hbd, by omega, by omega⟩]; rfl
  rw [make_ok hw hs, apply_good hck hgd] at hm
  simp only [Prod.mk.injEq] at hm
  obtain ⟨rfl, hc, _⟩ := hm
  rw [hat] at hc
  have hl0 : cel p.cells m.2 ≠ 0 := by
    have hl : ∀ x ∈ letters, x ≠ 0 := by decide
    exact hl _ (board_cell hbd hb)
  simp only [hat]
  by_cases h46 : cel p.cells m.2 = 46
  · rw [if_pos h46] at hc ⊢
    omega
  · rw [if_neg h46] at hc ⊢
    omega
/-- A round: the position is well, and a capture takes one piece away. -/
theorem round_law {now : Pos} {us : List Und} {m : Mvi} (hw : wellS now = 0) : wellS (stepMake now us m).2.1 = 0 ∧ (stepMake now us m).2.2.length ≤ us.length + 1 ∧
    ((stepMake now us m).1 = 0 ∧ (stepMake now us m).2.1.clock = 0 → nP (stepMake now us m).2.1.cells + 1 = nP now.cells) ∧
    (¬ ((stepMake now us m).1 = 0 ∧ (stepMake now us m).2.1.clock = 0) → nP (stepMake now us m).2.1.cells = nP now.cells) := by
  unfold stepMake
  by_cases h1 : us.length = 1024
  · rw [if_pos h1]
    exact ⟨hw, Nat.le_succ _, fun h => by simp at h, fun _ => rfl⟩
  rw [if_neg h1]
  by_cases h2 : (makeP now m).2.2 ≠ 0
  · rw [if_pos h2]
    exact ⟨hw, Nat.le_succ _, fun h => by simp at h, fun _ => rfl⟩
  rw [if_neg h2]
  have h0 : (makeP now m).2.2 = 0 := by simpa using h2
  obtain ⟨_, hs⟩ := make_err.1 h0
  obtain ⟨a, b, rfl⟩ := safe_form hw hs
  rcases hm : makeP now ⟨(a : Int), (b : Int)⟩ with ⟨q, c, er⟩
  rw [hm] at h0
  simp only at h0
  subst h0
  have hok := okMv (m := (a, b)) hw hs hm
  have hck := okMv_clock (m := (a, b)) hw hs hm
  have hct := hok.count
  refine ⟨hok.wq, by simp, fun h => ?_, fun h => ?_⟩
  · have := hck.1 h.2
    rw [if_neg this] at hct
    exact hct
  · have hn : c = 0 := by
      by_cases hc : c = 0
      · exact hc
      · exact absurd ⟨rfl, hck.2 hc⟩ h
    rw [if_pos hn] at hct
    exact hct
theorem find_empty {s : ByteArray} (hs : isBoard s = true) : ((findN s 46).length : Int) = 90 - nP s := by
  have h := nP_nE hs
  have e : (findN s 46).length = nE (cel s) := by
    unfold findN nE findL
    rw [if_pos hs, ← List.countP_eq_length_filter]
  omega
end Go.Proofs.YtgmlojocafepiaaGreatDoor.K

/- GameSquares: the walk. -/
namespace Go.Proofs.YtgmlojocafepiaaGreatDoor.K
open Go.RowKit Go.Lib Go.Proofs.YtgmlojocafepiaaGreatDoorW.PrintWords Go.Proofs.YtgmlojocafepiaaGreatDoor.Sp
set_option linter.unusedVariables false
set_option linter.unusedSimpArgs false
set_option maxRecDepth 100000 in
set_option maxHeartbeats 1000000 in
theorem gpieces_neg (W : World) (g : Addr) : Calls Tryz.prog 33 #[.pointer (some g), .int .i64 (-1)] W fun e w' => e = .returned (.slice none 0 0) ∧ w' = W := by
  go_enter Tryz.func33, Tryz.ntmps33
  go_wp2_with fail
  go_ret
  exact ⟨rfl, rfl⟩
/-- A game that a law plays. -/
structure G9 (w W : World) (S : Nat → Prop) (gb pb : Nat) (sv : Value) (now : Pos) (us : List Und) : Prop where
  gm : GmX W S gb pb sv now us
  bel : Below w.heap.size w W
  up : ∀ k, S k → w.heap.size ≤ k ∧ k < W.heap.size
section
variable {w W W' : World} {S : Nat → Prop} {gb pb : Nat} {sv sv' : Value} {now now' : Pos} {us us' : List Und}
theorem G9.below (h : G9 w W S gb pb sv now us) (hb : Below W.heap.size W W') : G9 w W' S gb pb sv now us :=
  ⟨h.gm.below hb, below_go h.bel hb, fun k hk => ⟨(h.up k hk).1, Nat.lt_of_lt_of_le (h.up k hk).2 hb.size⟩⟩
theorem G9.made (h : G9 w W S gb pb sv now us) (hk : Ken S W W') (hg : GmX W' (andNew S W W') gb pb sv' now' us') : ∃ S', G9 w W' S' gb pb sv' now' us' := by
  have hz := hk.size
  refine ⟨andNew S W W', hg, h.bel.trans (hk.toBelow h.bel.size (fun k hh => (h.up k hh).1)), fun k hh => ?_⟩
  have hl := h.bel.size
  rcases hh with hh | ⟨h1, h2⟩
  · have := h.up k hh; omega
  · omega
theorem G9.same (h : G9 w W S gb pb sv now us) (hk : Ken S W W') (hg : GmX W' S gb pb sv' now' us') : G9 w W' S gb pb sv' now' us' :=
  ⟨hg, h.bel.trans (hk.toBelow h.bel.size (fun k hh => (h.up k hh).1)), fun k hh => ⟨(h.up k hh).1, Nat.lt_of_lt_of_le (h.up k hh).2 hk.size⟩⟩
end
/-- A list of moves that lies before the law begins. -/
def MovesAt (w : World) (a : Option Addr) (n : Nat) (M : Nat → Mvi) : Prop := n = 0 ∨ ∃ g o, a = some ⟨g, o, none⟩ ∧ ∀ i, i < n → w.cell? ⟨g, o + i * 2, none⟩ = some (.int .i64 (M i).frm) ∧ w.cell? ⟨g, o + i * 2 + 1, none⟩ = some (.int .i64 (M i).dest)
set_option maxRecDepth 100000 in
set_option maxHeartbeats 4000000 in
theorem gameSquaresLaw (w : World) (p : Pos) (a : Option Addr) (n cap : Nat) (M : Nat → Mvi) (hmx : p.cells.size ≤ maxLen) (ha : MovesAt w a n M) (hT : TabW w) : Calls Tryz.prog 7 #[posV p, .slice a n cap] w fun e w' => e = .returned (.bool true) ∧ Below w.heap.size w w' := by
  have HT := Aside0.mk (fun (W : World) (hb : Below w.heap.size w W) => hT.below hb)
  have HLV := Aside0.mk (fun (W : World) (hT : TabW W) => live9_c W hT)
  have HM := Aside0.mk ha
  have hu := Tryz.underlying23
  have hu2 := Tryz.underlying32
  have HB0 := Aside0.mk (BoxP.new w p)
  have HL0 := Aside0.mk (below_alloc (Below.refl w.heap.size w) (.cells #[.string p.cells, .int .i64 p.side, .int .i64 p.clock, .int .i64 p.full] 23))
  by_cases h200 : p.cells.size > 200
  · have h1 : (200 : Int) < (p.cells.size : Int) := by omega
    clear h200 hmx hT ha
    go_enter Tryz.func7, Tryz.ntmps7
    go_wp2_with fail
    refine (HLV.out _ (HT.out _ HL0.out)).mono ?_
    rintro e w1 ⟨rfl, hb⟩
    have HW1 := Aside0.mk (below_go HL0.out hb)
    clear hb
    go_wp2_with fail
    go_ret
    exact ⟨rfl, HW1.out⟩
  have h1 : ¬ ((200 : Int) < (p.cells.size : Int)) := by omega
  by_cases h30 : n > 30
  · have h2 : (30 : Int) < (n : Int) := by omega
    clear h200 hmx hT ha h30
    go_enter Tryz.func7, Tryz.ntmps7
    go_wp2_with fail
    refine (HLV.out _ (HT.out _ HL0.out)).mono ?_
    rintro e w1 ⟨rfl, hb⟩
    have HW1 := Aside0.mk (below_go HL0.out hb)
    clear hb
    go_wp2_with fail
    go_ret
    exact ⟨rfl, HW1.out⟩
  have h2 : ¬ ((30 : Int) < (n : Int)) := by omega
  have HN := Aside0.mk (fun (W : World) (hT : TabW W) => gnew_c p W hT)
  unfold NewIs at HN
  by_cases hw : wellS p = 0
  case neg =>
    have HN2 : Aside0 (∀ (W : World), TabW W → Calls Tryz.prog 21 #[posV p] W fun e w' => e = .returned (.tuple #[.pointer none, .int .i64 (wellS p)]) ∧ Below W.heap.size W w') := ⟨fun W hT => (HN.out W hT).mono (fun e w' h => by rwa [if_pos hw] at h)⟩
    generalize hx : wellS p = x at *
    have hn : (x != 0) = true := by simpa using hw
    clear hx hw HN h200 hmx hT ha h30
    go_enter Tryz.func7, Tryz.ntmps7
    go_upto_region 1 with fail
    generalize w.alloc (.cells #[.string p.cells, .int .i64 p.side, .int .i64 p.clock, .int .i64 p.full] 23) = W1 at *
    obtain ⟨e0, e1, e2, e3⟩ := HB0.out
    go_wp2_with fail
    refine (HN2.out _ (HT.out _ HL0.out)).mono ?_
    rintro e w1 ⟨rfl, hb⟩
    have HW1 := Aside0.mk (below_go HL0.out hb)
    clear hb
    go_wp2_with fail
    refine (HLV.out _ (HT.out _ HW1.out)).mono ?_
    rintro e w2 ⟨rfl, hb⟩
    have HW2 := Aside0.mk (below_go HW1.out hb)
    clear hb
    go_wp2_with fail
    go_ret
    exact ⟨rfl, HW2.out⟩
  case pos =>
  have HN2 : Aside0 (∀ (W : World), TabW W → Calls Tryz.prog 21 #[posV p] W fun e w' => ∃ gb pb, e = .returned (.tuple #[.pointer (some ⟨gb, 0, none⟩), .int .i64 0]) ∧ GmX w' (newIn W w') gb pb (.slice none 0 0) p [] ∧ Below W.heap.size W w') := ⟨fun W hT => (HN.out W hT).mono (fun e w' h => by rwa [if_neg (by simpa using hw)] at h)⟩
  have HW := Aside0.mk hw
  have hn30 : n ≤ 30 := by omega
  have HN30 := Aside0.mk hn30
  clear HN hw h200 hmx hT ha h30 hn30
  go_enter Tryz.func7, Tryz.ntmps7
  go_upto_region 1 with fail
  generalize w.alloc (.cells #[.string p.cells, .int .i64 p.side, .int .i64 p.clock, .int .i64 p.full] 23) = W1 at *
  obtain ⟨e0, e1, e2, e3⟩ := HB0.out
  go_wp2_with fail
  refine (HN2.out _ (HT.out _ HL0.out)).mono ?_
  rintro e w1 ⟨gb, pb, rfl, hg, hb⟩
  have hz : w.heap.size ≤ W1.heap.size := HL0.out.size
  obtain ⟨S, H1⟩ : ∃ S, Aside0 (G9 w w1 S gb pb (.slice none 0 0) p []) := ⟨newIn W1 w1, ⟨⟨hg, below_go HL0.out hb, fun k hk => ⟨Nat.le_trans hz hk.1, hk.2⟩⟩⟩⟩
  clear hg hb e0 e1 e2 e3 HB0 HL0 HN2 hz
  go_wp2_with fail
  go_loopg [7] n (fun gg s7 wr => ∃ (i : Nat) (S : Nat → Prop) (sv : Value) (now : Pos) (us : List Und), s7 = .int .i64 (i : Int) ∧ i + gg = n ∧ Aside0 (G9 w wr S gb pb sv now us) ∧ Aside0 (wellS now = 0 ∧ us.length ≤ i))
  case atStart => exact ⟨0, S, _, p, [], rfl, by omega, H1, ⟨⟨HW.out, by simp⟩⟩⟩
  case round =>
    clear H1
    obtain ⟨i, S', sv, now, us, rfl, hi, HX, HI⟩ := hrel
    cases gk with
    | zero =>
      have hn : ¬ ((i : Int) < (n : Int)) := by omega
      clear hi
      go_wp2_with fail
      refine (gpieces_neg _ _).mono ?_
      rintro e w2 ⟨rfl, rfl⟩
      go_wp2_with fail
      refine (HLV.out _ (HT.out _ HX.out.bel)).mono ?_
      rintro e w3 ⟨rfl, hb⟩
      have HX3 := Aside0.mk (below_go HX.out.bel hb)
      clear hb
      go_wp2_with fail
      go_ret
      exact ⟨rfl, HX3.out⟩
    | succ g =>
      have hn : (i : Int) < (n : Int) := by omega
      have hib : (i : Int) ≤ 30 := by have := HN30.out; omega
      have HIN := Aside0.mk (show i + 1 + g = n by omega)
      obtain ⟨ga, o, rfl, hx⟩ := HM.out.resolve_left (by omega)
      have HMV := Aside0.mk (fun (W : World) (hb : Below w.heap.size w W) => (show W.cell? ⟨ga, o + i * 2, none⟩ = some (.int .i64 (M i).frm) ∧ W.cell? ⟨ga, o + i * 2 + 1, none⟩ = some (.int .i64 (M i).dest) from ⟨below_cell hb _ _ _ (hx i (by omega)).1, below_cell hb _ _ _ (hx i (by omega)).2⟩))
      clear hx hi
      have HRL := Aside0.mk (round_law (us := us) (m := M i) HI.out.1)
      have HMKC := Aside0.mk (fun S sv (W : World) (hG : GmX W S gb pb sv now us) (hT : TabW W) => gmake_c S gb pb sv now us (M i) W hG hT HI.out.1 (by have := HI.out.2; have := HN30.out; have := HIN.out; omega))
      have HBD := Aside0.mk (argOk_yes (checkP_board (well_check HI.out.1))).1
      have HUL := Aside0.mk HI.out.2
      have HNP := Aside0.mk (show nP now.cells = (piecesS now.cells 0).length + (piecesS now.cells 1).length from rfl)
      have HLA := Aside0.mk (And.intro (pieces_lt now.cells 0).2 (pieces_lt now.cells 1).2)
      clear HI
      unfold MadeIs at HMKC
      generalize stepMake now us (M i) = r at *
      obtain ⟨r1, q, us2⟩ := r
      simp only at HRL
      have HBQ := Aside0.mk (argOk_yes (checkP_board (well_check HRL.out.1))).1
      have HFE := Aside0.mk (find_empty HBQ.out)
      have HFC := Aside0.mk (fun W => rfind_c q.cells (by rw [board_size HBQ.out]; unfold maxLen; omega) 46 (by omega) W)
      have HNQ := Aside0.mk (show nP q.cells = (piecesS q.cells 0).length + (piecesS q.cells 1).length from rfl)
      have HLQ := Aside0.mk (And.intro (pieces_lt q.cells 0).2 (pieces_lt q.cells 1).2)
      have hs0 : IntKind.i64.wrap (((piecesS now.cells 0).length : Int) + ((piecesS now.cells 1).length : Int)) = ((piecesS now.cells 0).length : Int) + ((piecesS now.cells 1).length : Int) := by have := HLA.out; rw [IntKind.wrap_i64]; omega
      have hs1 : IntKind.i64.wrap (((piecesS q.cells 0).length : Int) + ((piecesS q.cells 1).length : Int)) = ((piecesS q.cells 0).length : Int) + ((piecesS q.cells 1).length : Int) := by have := HLQ.out; rw [IntKind.wrap_i64]; omega
      go_wp2_with fail
      refine (gpieces0_c HX.out.gm (HT.out _ HX.out.bel) HBD.out).mono ?_
      rintro e w2 ⟨v, rfl, ho, hb⟩
      obtain ⟨A2, k2, rfl, _⟩ := (ints_of ho).out
      have H2 := Aside0.mk (HX.out.below hb)
      clear hb ho HX
      go_wp2_with fail
      refine (gpieces1_c H2.out.gm (HT.out _ H2.out.bel) HBD.out).mono ?_
      rintro e w3 ⟨v, rfl, ho, hb⟩
      obtain ⟨A3, k3, rfl, _⟩ := (ints_of ho).out
      have H3 := Aside0.mk (H2.out.below hb)
      clear hb ho H2
      obtain ⟨x0, x1⟩ := HMV.out _ H3.out.bel
      go_wp2_with fail
      refine (HMKC.out _ _ _ H3.out.gm (HT.out _ H3.out.bel)).mono ?_
      rintro e w4 ⟨sv4, rfl, hg, hk⟩
      obtain ⟨S4, H4⟩ := H3.out.made hk hg
      have H4 := Aside0.mk H4
      clear hg hk x0 x1 H3
      go_wp2_with fail
      refine (gpos_c H4.out.gm).mono ?_
      rintro e w5 ⟨rfl, hb⟩
      have hnb : Below w5.heap.size w5 (w5.alloc (.cells #[.string q.cells, .int .i64 q.side, .int .i64 q.clock, .int .i64 q.full] 23)) := below_alloc (Below.refl _ _) _
      have H6 := Aside0.mk ((H4.out.below hb).below hnb)
      have HB6 := Aside0.mk (BoxP.new w5 q)
      clear hb hnb H4
      go_upto_region 14 with fail
      generalize w5.alloc (.cells #[.string q.cells, .int .i64 q.side, .int .i64 q.clock, .int .i64 q.full] 23) = w6 at *
      generalize w5.heap.size = b8 at *
      go_wp2_with fail
      refine (gpieces0_c H6.out.gm (HT.out _ H6.out.bel) HBQ.out).mono ?_
      rintro e w7 ⟨v, rfl, ho, hb⟩
      obtain ⟨A7, k7, rfl, _⟩ := (ints_of ho).out
      have H7 := Aside0.mk (H6.out.below hb)
      have HB7 := Aside0.mk (HB6.out.below hb)
      clear hb ho H6 HB6
      go_wp2_with fail
      refine (gpieces1_c H7.out.gm (HT.out _ H7.out.bel) HBQ.out).mono ?_
      rintro e w8 ⟨v, rfl, ho, hb⟩
      obtain ⟨A8, k8, rfl, _⟩ := (ints_of ho).out
      have H8 := Aside0.mk (H7.out.below hb)
      have HB8 := Aside0.mk (HB7.out.below hb)
      clear hb ho H7 HB7
      obtain ⟨e0, e1, e2, e3⟩ := HB8.out
      have hw90 : IntKind.i64.wrap (90 - ((findN q.cells 46).length : Int)) = 90 - ((findN q.cells 46).length : Int) := by have := HFE.out; have := HLQ.out; have := HNQ.out; rw [IntKind.wrap_i64]; omega
      have hne1 : (((piecesS q.cells 0).length : Int) + ((piecesS q.cells 1).length : Int) != 90 - ((findN q.cells 46).length : Int)) = false := by have := HFE.out; have := HNQ.out; simp; omega
      have hw1 : IntKind.i64.wrap (((piecesS now.cells 0).length : Int) + ((piecesS now.cells 1).length : Int) - 1) = ((piecesS now.cells 0).length : Int) + ((piecesS now.cells 1).length : Int) - 1 := by have := HLA.out; rw [IntKind.wrap_i64]; omega
      by_cases ht : r1 = 0 ∧ q.clock = 0
      case pos =>
        have hb1 : (r1 == 0) = true := by simp [ht.1]
        have hb2 : (q.clock == 0) = true := by simp [ht.2]
        have hne2 : (((piecesS q.cells 0).length : Int) + ((piecesS q.cells 1).length : Int) != ((piecesS now.cells 0).length : Int) + ((piecesS now.cells 1).length : Int) - 1) = false := by have := HRL.out.2.2.1 ht; have := HNQ.out; have := HNP.out; simp; omega
        clear ht
        go_wp2_with fail
        refine (HFC.out _).mono ?_
        rintro e w9 ⟨v, rfl, ho, hb⟩
        obtain ⟨A9, k9, rfl⟩ := ho.form
        have H9 := Aside0.mk (H8.out.below hb)
        clear hb ho H8
        go_wp2_with fail
        go_roundg g
        case measure => omega
        case rel => exact ⟨i + 1, S4, _, q, us2, by go_num, HIN.out, H9, ⟨⟨HRL.out.1, by have := HRL.out.2.1; have := HUL.out; omega⟩⟩⟩
      case neg =>
        have hne2 : (((piecesS q.cells 0).length : Int) + ((piecesS q.cells 1).length : Int) != ((piecesS now.cells 0).length : Int) + ((piecesS now.cells 1).length : Int)) = false := by have := HRL.out.2.2.2 ht; have := HNQ.out; have := HNP.out; simp; omega
        by_cases hr : r1 = 0
        all_goals
          first
          | (have hb2 : (q.clock == 0) = false := by (have hq : q.clock ≠ 0 := fun h => ht ⟨hr, h⟩); simp [hq])
            have hb1 : (r1 == 0) = true := by simp [hr]
          | have hb1 : (r1 == 0) = false := by simp [hr]
          clear ht hr
          go_wp2_with fail
          refine (HFC.out _).mono ?_
          rintro e w9 ⟨v, rfl, ho, hb⟩
          obtain ⟨A9, k9, rfl⟩ := ho.form
          have H9 := Aside0.mk (H8.out.below hb)
          clear hb ho H8
          go_wp2_with fail
          go_roundg g
          case measure => omega
          case rel => exact ⟨i + 1, S4, _, q, us2, by go_num, HIN.out, H9, ⟨⟨HRL.out.1, by have := HRL.out.2.1; have := HUL.out; omega⟩⟩⟩
end Go.Proofs.YtgmlojocafepiaaGreatDoor.K

/- A list of moves that comes in, out of a row's words. -/
namespace Go.Proofs.YtgmlojocafepiaaGreatDoor.K
open Go.RowKit Go.Lib Go.ChangeShapes Go.Proofs.YtgmlojocafepiaaGreatDoor.P Go.Proofs.YtgmlojocafepiaaGreatDoorW.PrintWords Go.Proofs.YtgmlojocafepiaaGreatDoor.Sp
set_option linter.unusedVariables false
set_option linter.unusedSimpArgs false
theorem add_spot9 (ad : Addr) (W : World) (v : Value) (h : W.cell? (ad.add 0) = some v) : ∃ g o, ad = ⟨g, o, none⟩ := by
  obtain ⟨g, o, s⟩ := ad
  cases s with
  | none => exact ⟨g, o, rfl⟩
  | some x =>
    exfalso
    simp only [World.cell?, Addr.add, if_true] at h
    split at h <;> simp at h
theorem add_at9 (g o k : Nat) : (⟨g, o, none⟩ : Addr).add k = ⟨g, o + k, none⟩ := by unfold Addr.add; split <;> simp_all
theorem moves_of {W : World} {a : Option Addr} {len cap : Nat}
    (h : (a = none ∧ len = 0 ∧ cap = 0) ∨ ∃ ad, a = some ad ∧ len ≤ cap ∧ cap ≤ maxLen ∧ ∀ i, i < len → ∀ (j : Nat) (k : FK), [FK.int .i64, .int .i64][j]? = some k → ∃ c, W.cell? (ad.add (i * 2 + j)) = some c ∧ k.has c) :
    ∃ M : Nat → Mvi, MovesAt W a len M := by
  rcases h with ⟨_, rfl, _⟩ | ⟨ad, rfl, hl, hm, hx⟩
  · exact ⟨fun _ => ⟨0, 0⟩, .inl rfl⟩
  by_cases h0 : len = 0
  · exact ⟨fun _ => ⟨0, 0⟩, .inl h0⟩
  obtain ⟨c, hc, _⟩ := hx 0 (by omega) 0 _ rfl
  obtain ⟨g, o, rfl⟩ := add_spot9 _ _ _ hc
  have each : ∀ i, i < len → ∃ x : Mvi, W.cell? ⟨g, o + i * 2, none⟩ = some (.int .i64 x.frm) ∧ W.cell? ⟨g, o + i * 2 + 1, none⟩ = some (.int .i64 x.dest) := by
    intro i hi
    obtain ⟨c0, h0, n0, rfl, w0⟩ := hx i hi 0 _ rfl
    obtain ⟨c1, h1, n1, rfl, w1⟩ := hx i hi 1 _ rfl
    rw [add_at9] at h0 h1
    exact ⟨⟨n0, n1⟩, h0, h1⟩
  refine ⟨fun i => if h : i < len then Classical.choose (each i h) else ⟨0, 0⟩, .inr ⟨g, o, rfl, fun i hi => ?_⟩⟩
  simp only [hi, dif_pos]
  exact Classical.choose_spec (each i hi)
end Go.Proofs.YtgmlojocafepiaaGreatDoor.K
