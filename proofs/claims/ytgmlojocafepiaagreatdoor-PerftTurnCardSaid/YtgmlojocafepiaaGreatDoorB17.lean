/- Walks and plain laws that several statements lean on, joined: no statement of the seat is proved here. -/
import Derived.Defers
import Derived.Deep.RegionLaw
import Derived.Deep.RegionHeld3
import Derived.Deep.Cut
import Derived.Test.YtgmlojocafepiaaGreatDoorB9
import Derived.Test.YtgmlojocafepiaaGreatDoorB10
import Derived.Test.YtgmlojocafepiaaGreatDoorB13
import Derived.Test.YtgmlojocafepiaaGreatDoorB7
import Derived.Test.YtgmlojocafepiaaGreatDoorB11
import Derived.Test.YtgmlojocafepiaaGreatDoorB8

/- Plain law: how many lines there are. -/
namespace Go.Proofs.YtgmlojocafepiaaGreatDoor.K
open Go.RowKit Go.Lib Go.Proofs.YtgmlojocafepiaaGreatDoorW.PrintWords Go.Proofs.YtgmlojocafepiaaGreatDoor.Sp
set_option linter.unusedVariables false
set_option linter.unusedSimpArgs false
/-- How many lines there are, of a board that is right. -/
def linesR (s : ByteArray) (a : Int) : Nat → Nat
  | 0 => 1
  | d + 1 => ((legalR s a).map (fun m => linesR (movedB s m.1 m.2) (1 - a) d)).sum
theorem sum_le {α : Type} (l : List α) (f : α → Nat) (b : Nat) (h : ∀ x ∈ l, f x ≤ b) : (l.map f).sum ≤ l.length * b := by
  induction l with
  | nil => simp
  | cons x r ih =>
    have h1 := h x List.mem_cons_self
    have h2 := ih (fun y hy => h y (List.mem_cons_of_mem _ hy))
    simp only [List.map_cons, List.sum_cons, List.length_cons]
    rw [Nat.succ_mul]
    omega
theorem legalR_len (s : ByteArray) (a : Int) : (legalR s a).length ≤ 8100 := Nat.le_trans (List.length_filter_le _ _) (gathM_len s a _ 90)
theorem lines_le : ∀ (d : Nat) (s : ByteArray) (a : Int), linesR s a d ≤ 8100 ^ d
  | 0, _, _ => Nat.le_refl _
  | d + 1, s, a => by
    unfold linesR
    refine Nat.le_trans (sum_le _ _ (8100 ^ d) (fun m _ => lines_le d _ _)) ?_
    rw [Nat.pow_succ, Nat.mul_comm]
    exact Nat.mul_le_mul_left _ (legalR_len s a)
theorem lines_one (s : ByteArray) (a : Int) : linesR s a 1 = (legalR s a).length := by
  unfold linesR
  have : ∀ l : List Mv, (l.map (fun m => linesR (movedB s m.1 m.2) (1 - a) 0)).sum = l.length := by
    intro l
    induction l with
    | nil => rfl
    | cons x r ih =>
      simp only [List.map_cons, List.sum_cons, List.length_cons, ih]
      show 1 + r.length = r.length + 1
      omega
  exact this _
/-- Behind a move that may be made. -/
theorem legal_next {p : Pos} {m : Mv} (hm : m ∈ legalL p) : (makeP p (mviOf m)).1.cells = movedB p.cells m.1 m.2 ∧ (makeP p (mviOf m)).1.side = 1 - p.side ∧ wellS (makeP p (mviOf m)).1 = 0 ∧ (makeP p (mviOf m)).2.2 = 0 := by
  obtain ⟨hw, hg, hs⟩ := legal_mem.1 hm
  have hck := well_check hw
  have hgd := safe_is_good hck hs
  obtain ⟨mb, h1, _, _, h4⟩ := legal_make hm
  refine ⟨?_, by rw [h1], h4, by rw [h1]⟩
  rw [make_ok hw hs, apply_good hck hgd]
  rfl
theorem lines_turn : ∀ (d : Nat) (p : Pos), wellS p = 0 → linesR (turnS p.cells) (1 - p.side) d = linesR p.cells p.side d
  | 0, _, _ => rfl
  | d + 1, p, hw => by
    have hck := well_check hw
    obtain ⟨hbd, hsd, _⟩ := argOk_yes (checkP_parts hck).1
    have hwt : wellS (turnP p) = 0 := by rw [well_turn hbd hsd, hw]
    have e1 : legalR (turnS p.cells) (1 - p.side) = ((legalR p.cells p.side).map flipM).reverse := by
      have := legal_turn hbd hsd
      rw [legal_eq hw, legal_eq hwt] at this
      exact this
    unfold linesR
    rw [e1, List.map_reverse, List.sum_reverse, List.map_map]
    congr 1
    refine List.map_congr_left fun m hm => ?_
    have hm' : m ∈ legalL p := by rw [legal_eq hw]; exact hm
    obtain ⟨_, hg, hs⟩ := legal_mem.1 hm'
    obtain ⟨_, h1, h2, h3, h4, _⟩ := gath_mem hg
    obtain ⟨_, _, _, hab, _⟩ := move_parts hck h1 h2 h3 h4
    obtain ⟨q1, q2, q3, _⟩ := legal_next hm'
    have hq := (argOk_yes (checkP_parts (well_check q3)).1).1
    rw [q1] at hq
    show linesR (movedB (turnS p.cells) (89 - m.1) (89 - m.2)) (1 - (1 - p.side)) d = _
    rw [moved_turn hbd hq h1 h2 hab]
    have := lines_turn d (makeP p (mviOf m)).1 q3
    rw [q1, q2] at this
    exact this
end Go.Proofs.YtgmlojocafepiaaGreatDoor.K

/- perft: the lines are counted by playing on and back. -/
namespace Go.Proofs.YtgmlojocafepiaaGreatDoor.K
open Go.RowKit Go.Lib Go.Proofs.YtgmlojocafepiaaGreatDoorW.PrintWords Go.Proofs.YtgmlojocafepiaaGreatDoor.Sp
set_option linter.unusedVariables false
set_option linter.unusedSimpArgs false
/-- A game that is played on since the world W0. -/
structure E9 (W0 : World) (S0 : Nat → Prop) (W : World) (S : Nat → Prop) (gb pb : Nat) (sv : Value) (now : Pos) (us : List Und) : Prop where
  gm : GmX W S gb pb sv now us
  ken : Ken S0 W0 W
  up : ∀ k, S k → S0 k ∨ (W0.heap.size ≤ k ∧ k < W.heap.size)
section
variable {W0 W W' W2 : World} {S0 S S' S2 : Nat → Prop} {gb pb : Nat} {sv sv' sv2 : Value} {now now' now2 : Pos} {us us' us2 : List Und}
theorem E9.start (h : GmX W S gb pb sv now us) : E9 W S W S gb pb sv now us := ⟨h, Ken.refl _ _, fun k hk => .inl hk⟩
theorem E9.trans (h : E9 W0 S0 W S gb pb sv now us) (h2 : E9 W S W2 S2 gb pb sv2 now2 us2) : E9 W0 S0 W2 S2 gb pb sv2 now2 us2 := by
  have z1 := h.ken.size
  have z2 := h2.ken.size
  refine ⟨h2.gm, h.ken.trans h2.ken (fun k hk => (h.up k hk).imp id (fun h3 => h3.1)), fun k hk => ?_⟩
  rcases h2.up k hk with h3 | h3
  · rcases h.up k h3 with h4 | h4
    · exact .inl h4
    · exact .inr ⟨h4.1, by omega⟩
  · exact .inr ⟨by omega, h3.2⟩
theorem E9.below (h : E9 W0 S0 W S gb pb sv now us) (hb : Below W.heap.size W W') : E9 W0 S0 W' S gb pb sv now us :=
  ⟨h.gm.below hb, h.ken.below hb, fun k hk => (h.up k hk).imp id (fun h3 => ⟨h3.1, Nat.lt_of_lt_of_le h3.2 hb.size⟩)⟩
theorem E9.made (hk : Ken S W W') (hg : GmX W' (andNew S W W') gb pb sv' now' us') : E9 W S W' (andNew S W W') gb pb sv' now' us' := ⟨hg, hk, fun k hk => hk⟩
theorem E9.same (hk : Ken S W W') (hg : GmX W' S gb pb sv' now' us') : E9 W S W' S gb pb sv' now' us' := ⟨hg, hk, fun k hk => .inl hk⟩
/-- What lies outside stays outside. -/
theorem E9.out (h : E9 W S W2 S2 gb pb sv2 now2 us2) {k : Nat} (hk : k < W.heap.size) (hn : ¬ S k) : ¬ S2 k := fun h2 => (h.up k h2).elim hn (fun h3 => by omega)
theorem B9.e9 {b o : Nat} {v : Value} (h : B9 W S b o v) (he : E9 W S W2 S2 gb pb sv2 now2 us2) : B9 W2 S2 b o v :=
  ⟨he.ken.cell h.c h.n, he.out (World.block_lt_of_cell? W ⟨b, o, none⟩ h.c) h.n⟩
theorem R9.e9 {B : Nat} {v : Value} {l : List Mv} (h : R9 W S B v l) (he : E9 W S W2 S2 gb pb sv2 now2 us2) : R9 W2 S2 B v l :=
  h.ken he.ken (fun g hg h2 => (he.up g h2).elim id (fun h3 => by omega))
theorem TabW.e9 (h : TabW W) (he : E9 W S W2 S2 gb pb sv2 now2 us2) (hS : ∀ k, S k → 0 < k) : TabW W2 := by
  have hl := h.lt
  have hb : Below (0 + 1) W W2 := he.ken.toBelow (by omega) (fun k hk => hS k hk)
  intro j hj
  exact (hb.cell (p := ⟨0, _, none⟩) (Nat.lt_succ_self _)).trans (h j hj)
end
/-- What count's closure has: the game's box, its own. -/
structure C11 (W : World) (S : Nat → Prop) (gb cb lb : Nat) : Prop where
  c : B9 W S cb 0 (.pointer (some ⟨gb, 0, none⟩))
  l : B9 W S lb 0 (.func (.func 114) #[] #[.pointer (some ⟨cb, 0, none⟩), .pointer (some ⟨lb, 0, none⟩)])
theorem C11.below {W W' : World} {S : Nat → Prop} {gb cb lb : Nat} (h : C11 W S gb cb lb) (hb : Below W.heap.size W W') : C11 W' S gb cb lb := ⟨h.c.below hb, h.l.below hb⟩
theorem C11.e9 {W W2 : World} {S S2 : Nat → Prop} {gb pb cb lb : Nat} {sv2 : Value} {now2 : Pos} {us2 : List Und} (h : C11 W S gb cb lb) (he : E9 W S W2 S2 gb pb sv2 now2 us2) : C11 W2 S2 gb cb lb := ⟨h.c.e9 he, h.l.e9 he⟩
/-- Behind a move that may be made: the step, and the lines behind it. -/
theorem legal_step {p : Pos} {us : List Und} {m : Mv} (hm : m ∈ legalL p) (hl : us.length < 1024) : ∃ q c, makeP p (mviOf m) = (q, c, 0) ∧ stepMake p us (mviOf m) = (0, q, us ++ [⟨m, c, p.clock, p.full⟩]) ∧ wellS q = 0 ∧ OkMv p q m c ∧ q.cells = movedB p.cells m.1 m.2 ∧ q.side = 1 - p.side := by
  obtain ⟨hw, hg, hs⟩ := legal_mem.1 hm
  obtain ⟨q1, q2, q3, q4⟩ := legal_next hm
  rcases h : makeP p (mviOf m) with ⟨q, c, er⟩
  rw [h] at q1 q2 q3 q4
  simp only at q1 q2 q3 q4
  subst q4
  refine ⟨q, c, rfl, ?_, q3, okMv hw hs h, q1, q2⟩
  unfold stepMake
  rw [if_neg (by omega), h, if_neg (by simp)]
  rfl
def linF (p : Pos) (d : Nat) (m : Mv) : Nat := linesR (movedB p.cells m.1 m.2) (1 - p.side) d
theorem lines_sum {p : Pos} (hw : wellS p = 0) (d : Nat) : ((legalL p).map (linF p d)).sum = linesR p.cells p.side (d + 1) := by
  rw [legal_eq hw]; rfl
theorem part_le (l : List Mv) (f : Mv → Nat) (i : Nat) : ((l.take i).map f).sum ≤ (l.map f).sum := by
  conv => rhs; rw [← List.take_append_drop i l]
  rw [List.map_append, List.sum_append]
  omega
theorem part_next (l : List Mv) (f : Mv → Nat) (i : Nat) (hi : i < l.length) : ((l.take (i + 1)).map f).sum = ((l.take i).map f).sum + f l[i] := by
  rw [List.take_succ_eq_append_getElem hi, List.map_append, List.sum_append]
  simp
theorem lines_small {s : ByteArray} {a : Int} {d : Nat} (hd : d ≤ 3) : linesR s a d ≤ 531441000000 := by
  refine Nat.le_trans (lines_le d s a) ?_
  rcases (show d = 0 ∨ d = 1 ∨ d = 2 ∨ d = 3 by omega) with rfl | rfl | rfl | rfl <;> decide
end Go.Proofs.YtgmlojocafepiaaGreatDoor.K

/- perft: count's closure, the walk. -/
namespace Go.Proofs.YtgmlojocafepiaaGreatDoor.K
open Go.RowKit Go.Lib Go.Proofs.YtgmlojocafepiaaGreatDoorW.PrintWords Go.Proofs.YtgmlojocafepiaaGreatDoor.Sp
set_option linter.unusedVariables false
set_option linter.unusedSimpArgs false
abbrev tabB : Nat := 0
def LinesIs (S : Nat → Prop) (gb pb : Nat) (now : Pos) (us : List Und) (d : Nat) (W : World) (e : Ending) (w' : World) : Prop :=
  ∃ S' sv', e = .returned (.int .i64 (linesR now.cells now.side d : Int)) ∧ E9 W S w' S' gb pb sv' now us
set_option maxRecDepth 100000 in
set_option maxHeartbeats 2000000 in
theorem lines_0 {S : Nat → Prop} {gb pb cb lb : Nat} {sv : Value} {now : Pos} {us : List Und} {W : World} (h : GmX W S gb pb sv now us) : Calls Tryz.prog 114 #[.int .i64 0, .pointer (some ⟨cb, 0, none⟩), .pointer (some ⟨lb, 0, none⟩)] W (LinesIs S gb pb now us 0 W) := by
  go_enter Tryz.func114, Tryz.ntmps114
  go_wp2_with fail
  go_ret
  exact ⟨S, sv, rfl, E9.start h⟩
set_option maxRecDepth 100000 in
set_option maxHeartbeats 2000000 in
theorem lines_1 {S : Nat → Prop} {gb pb cb lb : Nat} {sv : Value} {now : Pos} {us : List Und} {W : World} (h : GmX W S gb pb sv now us) (hc : C11 W S gb cb lb) (hT : TabW W) (hw : wellS now = 0) : Calls Tryz.prog 114 #[.int .i64 1, .pointer (some ⟨cb, 0, none⟩), .pointer (some ⟨lb, 0, none⟩)] W (LinesIs S gb pb now us 1 W) := by
  have HL := Aside0.mk (show linesR now.cells now.side 1 = (legalL now).length by rw [lines_one, legal_eq hw])
  have HG := Aside0.mk h
  have HT := Aside0.mk (fun (W' : World) (hb : Below W.heap.size W W') => hT.below hb)
  have HM := Aside0.mk (fun (W : World) (hT : TabW W) => lmoves_c now W hT)
  have c0 := hc.c.c
  clear h hc hT hw
  go_enter Tryz.func114, Tryz.ntmps114
  go_wp2_with fail
  refine (gpos_c HG.out).mono ?_
  rintro e w1 ⟨rfl, hb⟩
  have HE := Aside0.mk ((E9.start HG.out).below hb)
  have HB := Aside0.mk hb
  clear hb c0
  go_wp2_with fail
  refine (HM.out _ (HT.out _ HB.out)).mono ?_
  rintro e w2 ⟨v, rfl, ho, hb⟩
  have HE2 := Aside0.mk (HE.out.below hb)
  obtain ⟨A, cp, rfl⟩ := row_form ho
  clear hb ho
  go_wp2_with fail
  go_ret
  exact ⟨S, sv, by rw [HL.out]; rfl, HE2.out⟩
def psum (l : List Mv) (f : Mv → Nat) (i : Nat) : Nat := ((l.take i).map f).sum
theorem psum_zero (l : List Mv) (f : Mv → Nat) : psum l f 0 = 0 := by simp [psum]
theorem psum_all (l : List Mv) (f : Mv → Nat) : psum l f l.length = (l.map f).sum := by unfold psum; rw [List.take_length]
theorem psum_le (l : List Mv) (f : Mv → Nat) (i : Nat) : psum l f i ≤ (l.map f).sum := part_le l f i
theorem psum_next (l : List Mv) (f : Mv → Nat) (i : Nat) (hi : i < l.length) : psum l f (i + 1) = psum l f i + f l[i] := part_next l f i hi
/-- The game's blocks are behind the table, and there. -/
def InW (S : Nat → Prop) (W : World) : Prop := ∀ k, S k → tabB < k ∧ k < W.heap.size
theorem InW.e9 {W W2 : World} {S S2 : Nat → Prop} {gb pb : Nat} {sv2 : Value} {now2 : Pos} {us2 : List Und} (h : InW S W) (hT : TabW W) (he : E9 W S W2 S2 gb pb sv2 now2 us2) : InW S2 W2 := by
  intro k hk
  have hz := he.ken.size
  have ht : tabB < W.heap.size := hT.lt
  rcases he.up k hk with h3 | h3
  · have := h k h3; omega
  · omega
/-- A round of count's loop. -/
structure R11 (W0 : World) (S0 : Nat → Prop) (W : World) (S : Nat → Prop) (gb pb : Nat) (sv : Value) (now : Pos) (us : List Und) (cb lb : Nat) (B : Nat) (A : Option Addr) (n cp : Nat) (l : List Mv) : Prop where
  e : E9 W0 S0 W S gb pb sv now us
  c : C11 W S gb cb lb
  r : R9 W S B (.slice A n cp) l
section
variable {W0 W W' W2 : World} {S0 S S' S2 : Nat → Prop} {gb pb cb lb B n cp : Nat} {sv sv' sv2 : Value} {now now2 : Pos} {us us2 : List Und} {A : Option Addr} {l : List Mv}
theorem R11.below (h : R11 W0 S0 W S gb pb sv now us cb lb B A n cp l) (hb : Below W.heap.size W W') : R11 W0 S0 W' S gb pb sv now us cb lb B A n cp l := ⟨h.e.below hb, h.c.below hb, h.r.below hb⟩
theorem R11.go (h : R11 W0 S0 W S gb pb sv now us cb lb B A n cp l) (he : E9 W S W2 S2 gb pb sv2 now2 us2) : R11 W0 S0 W2 S2 gb pb sv2 now2 us2 cb lb B A n cp l := ⟨h.e.trans he, h.c.e9 he, h.r.e9 he⟩
end
set_option maxRecDepth 100000 in
set_option maxHeartbeats 8000000 in
theorem lines_next (d : Nat) (hd : d + 2 ≤ 3) (IH : ∀ (S : Nat → Prop) (gb pb cb lb : Nat) (sv : Value) (now : Pos) (us : List Und) (W : World), GmX W S gb pb sv now us → C11 W S gb cb lb → TabW W → InW S W → wellS now = 0 → us.length + (d + 1) ≤ 1000 → Calls Tryz.prog 114 #[.int .i64 ((d + 1 : Nat) : Int), .pointer (some ⟨cb, 0, none⟩), .pointer (some ⟨lb, 0, none⟩)] W (LinesIs S gb pb now us (d + 1) W))
    {S : Nat → Prop} {gb pb cb lb : Nat} {sv : Value} {now : Pos} {us : List Und} {W : World} (h : GmX W S gb pb sv now us) (hc : C11 W S gb cb lb) (hT : TabW W) (hS : InW S W) (hw : wellS now = 0) (hl : us.length + (d + 2) ≤ 1000) : Calls Tryz.prog 114 #[.int .i64 ((d + 2 : Nat) : Int), .pointer (some ⟨cb, 0, none⟩), .pointer (some ⟨lb, 0, none⟩)] W (LinesIs S gb pb now us (d + 2) W) := by
  have HL := Aside0.mk (lines_sum hw (d + 1))
  have HLS := Aside0.mk (show ((legalL now).map (linF now (d + 1))).sum ≤ 531441000000 by rw [lines_sum hw]; exact lines_small hd)
  have HFS := Aside0.mk (fun m => show linF now (d + 1) m ≤ 531441000000 from lines_small (by omega))
  have HG := Aside0.mk h
  have HT := Aside0.mk (fun (W' : World) (S2 : Nat → Prop) (sv2 : Value) (now2 : Pos) (us2 : List Und) (he : E9 W S W' S2 gb pb sv2 now2 us2) => hT.e9 he (fun k hk => (hS k hk).1))
  have HTS := Aside0.mk (fun (W' : World) (S2 : Nat → Prop) (sv2 : Value) (now2 : Pos) (us2 : List Und) (he : E9 W S W' S2 gb pb sv2 now2 us2) => hS.e9 hT he)
  have HM := Aside0.mk (fun (W : World) (hT : TabW W) => lmoves_c now W hT)
  have HI := Aside0.mk IH
  have HST := Aside0.mk (fun (m : Mv) (hm : m ∈ legalL now) => legal_step (us := us) hm (by omega))
  have HLN := Aside0.mk (show (legalL now).length ≤ 8100 by rw [legal_eq hw]; exact legalR_len _ _)
  have HUL := Aside0.mk hl
  have HW := Aside0.mk hw
  have c0 := hc.c.c
  have HC1 := Aside0.mk (fun (w1 : World) (hb : Below W.heap.size W w1) (v : Value) (l : List Mv) (w2 : World) (hb2 : Below w1.heap.size w1 w2) (ho : OwnM w2 w1.heap.size v l) => show C11 w2 S gb cb lb ∧ R9 w2 S w1.heap.size v l from ⟨(hc.below hb).below hb2, R9.of ho (fun k hk => Nat.lt_of_lt_of_le (hS k hk).2 hb.size)⟩)
  have b0 : (((d + 2 : Nat) : Int) == 0) = false := by simp; omega
  have b1 : (((d + 2 : Nat) : Int) == 1) = false := by simp; omega
  have b2 : IntKind.i64.wrap (((d + 2 : Nat) : Int) - 1) = ((d + 1 : Nat) : Int) := by rw [IntKind.wrap_i64]; omega
  generalize ((d + 2 : Nat) : Int) = D2 at *
  clear h hc hT hw hl hS IH hd
  go_enter Tryz.func114, Tryz.ntmps114
  go_wp2_with fail
  refine (gpos_c HG.out).mono ?_
  rintro e w1 ⟨rfl, hb⟩
  have HE1 := Aside0.mk ((E9.start HG.out).below hb)
  have HB1 := Aside0.mk hb
  clear hb c0
  go_wp2_with fail
  refine (HM.out _ (HT.out _ _ _ _ _ HE1.out)).mono ?_
  rintro e w2 ⟨v, rfl, ho, hb⟩
  obtain ⟨h2, h3⟩ := HC1.out w1 HB1.out v _ w2 hb ho
  obtain ⟨A, cp, rfl⟩ := row_form ho
  have HR : Aside0 (R11 W S w2 S gb pb sv now us cb lb w1.heap.size A (legalL now).length cp (legalL now)) := ⟨⟨HE1.out.below hb, h2, h3⟩⟩
  clear hb ho h2 h3 HG HE1 HB1 HC1 HM
  generalize w1.heap.size = B at *
  generalize legalL now = l at *
  go_wp2_with fail
  go_loopg [5, 21] l.length (fun gg s5 s21 wr => ∃ (i : Nat) (S2 : Nat → Prop) (sv2 : Value), s5 = .int .i64 ((psum l (linF now (d + 1)) i : Nat) : Int) ∧ s21 = .int .i64 (i : Int) ∧ i + gg = l.length ∧ Aside0 (R11 W S wr S2 gb pb sv2 now us cb lb B A l.length cp l))
  case atStart => exact ⟨0, S, sv, by rw [psum_zero]; rfl, rfl, by omega, HR⟩
  case round =>
    clear HR
    obtain ⟨i, S2, sv2, rfl, rfl, hi, HR⟩ := hrel
    cases gk with
    | zero =>
      have hn : ¬ ((i : Int) < (l.length : Int)) := by omega
      have HIE := Aside0.mk (show psum l (linF now (d + 1)) i = linesR now.cells now.side (d + 2) by rw [show i = l.length by omega, psum_all]; exact HL.out)
      rw [HIE.out]
      clear hi HIE
      go_wp2_with fail
      go_ret
      exact ⟨S2, sv2, rfl, HR.out.e⟩
    | succ g =>
      have hn : (i : Int) < (l.length : Int) := by omega
      have hil : i < l.length := by omega
      have hib : (i : Int) ≤ 8100 := by have := HLN.out; omega
      have HIN := Aside0.mk (show i + 1 + g = l.length by omega)
      obtain ⟨g1, cap1, hA1, _, hg1, hx1⟩ := HR.out.r.row.at (fun h => by rw [h] at hil; simp at hil)
      simp only [Value.slice.injEq, true_and] at hA1
      obtain ⟨rfl, rfl⟩ := hA1
      obtain ⟨x0, x1⟩ := hx1 i hil
      obtain ⟨q, c, hmk, hst, hwq, hok, hqc, hqs⟩ := HST.out l[i] (List.getElem_mem hil)
      have HPN := Aside0.mk (psum_next l (linF now (d + 1)) i hil)
      have HPL := Aside0.mk (show psum l (linF now (d + 1)) i + linF now (d + 1) l[i] ≤ 531441000000 by
        have h1 := psum_le l (linF now (d + 1)) (i + 1)
        have h2 := HPN.out
        have h3 := HLS.out
        omega)
      have HQL := Aside0.mk (show linesR q.cells q.side (d + 1) = linF now (d + 1) l[i] by rw [hqc, hqs]; rfl)
      have HOK := Aside0.mk hok
      have HWQ := Aside0.mk hwq
      have HSTA := Aside0.mk hst
      generalize hsn : psum l (linF now (d + 1)) (i + 1) = sn at *
      have HSN := Aside0.mk hsn
      clear hsn
      generalize psum l (linF now (d + 1)) i = sm at *
      generalize linF now (d + 1) l[i] = sl at *
      generalize l[i] = m at *
      obtain ⟨ma, mb⟩ := m
      simp only at x0 x1
      clear hmk hst hwq hok hqc hqs hx1 hi
      have hsum : IntKind.i64.wrap ((sm : Int) + (sl : Int)) = ((sn : Nat) : Int) := by have := HPL.out; have := HPN.out; rw [IntKind.wrap_i64]; omega
      go_upto_region 10 with fail
      have HR3 := Aside0.mk (HR.out.below (below_alloc (Below.refl _ _) (.cells #[.int .i64 (ma : Int), .int .i64 (mb : Int)] 32)))
      have d0 : (wr.alloc (.cells #[.int .i64 (ma : Int), .int .i64 (mb : Int)] 32)).cell? ⟨wr.heap.size, 0, none⟩ = some (.int .i64 (ma : Int)) := by simp [World.cell?_alloc_at]
      have d1 : (wr.alloc (.cells #[.int .i64 (ma : Int), .int .i64 (mb : Int)] 32)).cell? ⟨wr.heap.size, 1, none⟩ = some (.int .i64 (mb : Int)) := by simp [World.cell?_alloc_at]
      generalize wr.alloc (.cells #[.int .i64 (ma : Int), .int .i64 (mb : Int)] 32) = w3 at *
      generalize wr.heap.size = b7 at *
      have HMK := Aside0.mk (gmake_c S2 gb pb sv2 now us (mviOf (ma, mb)) w3 HR3.out.e.gm (HT.out _ _ _ _ _ HR3.out.e) HW.out (by have := HUL.out; omega))
      unfold MadeIs at HMK
      rw [HSTA.out] at HMK
      have c0 := HR3.out.c.c.c
      clear HR x0 x1
      go_wp2_with fail
      refine HMK.out.mono ?_
      rintro e w4 ⟨sv4, rfl, hg, hk⟩
      have H4 := Aside0.mk (HR3.out.go (E9.made hk hg))
      generalize andNew S2 w3 w4 = S4 at *
      clear hg hk c0 d0 d1 HR3 HMK
      have l0 := H4.out.c.l.c
      go_wp2_with fail
      refine (HI.out S4 gb pb cb lb sv4 q _ w4 H4.out.e.gm H4.out.c (HT.out _ _ _ _ _ H4.out.e) (HTS.out _ _ _ _ _ H4.out.e) HWQ.out (by have := HUL.out; simp; omega)).mono ?_
      rintro e w5 ⟨S5, sv5, rfl, he⟩
      have H5 := Aside0.mk (H4.out.go he)
      rw [HQL.out]
      clear he l0 H4
      have c0 := H5.out.c.c.c
      go_wp2_with fail
      refine (gunmake_c S5 gb pb sv5 now q us ⟨(ma, mb), c, now.clock, now.full⟩ w5 H5.out.e.gm HOK.out rfl rfl (by have := HUL.out; omega)).mono ?_
      rintro e w6 ⟨sv6, rfl, hg, hk⟩
      have H6 := Aside0.mk (H5.out.go (E9.same hk hg))
      clear hg hk c0 H5
      go_wp2_with fail
      go_roundg g
      case measure => omega
      case rel => exact ⟨i + 1, S5, sv6, by rw [HSN.out], by go_num, HIN.out, H6⟩
theorem plines_c : ∀ (d : Nat), d ≤ 3 → ∀ (S : Nat → Prop) (gb pb cb lb : Nat) (sv : Value) (now : Pos) (us : List Und) (W : World), GmX W S gb pb sv now us → C11 W S gb cb lb → TabW W → InW S W → wellS now = 0 → us.length + d ≤ 1000 → Calls Tryz.prog 114 #[.int .i64 (d : Int), .pointer (some ⟨cb, 0, none⟩), .pointer (some ⟨lb, 0, none⟩)] W (LinesIs S gb pb now us d W)
  | 0, _, _, _, _, _, _, _, _, _, _, h, _, _, _, _, _ => lines_0 h
  | 1, _, _, _, _, _, _, _, _, _, _, h, hc, hT, _, hw, _ => lines_1 h hc hT hw
  | d + 2, hd, _, _, _, _, _, _, _, _, _, h, hc, hT, hS, hw, hl => lines_next d hd (plines_c (d + 1) (by omega)) h hc hT hS hw hl
end Go.Proofs.YtgmlojocafepiaaGreatDoor.K

/- perft: count, begin, Count. -/
namespace Go.Proofs.YtgmlojocafepiaaGreatDoor.K
open Go.RowKit Go.Lib Go.Proofs.YtgmlojocafepiaaGreatDoorW.PrintWords Go.Proofs.YtgmlojocafepiaaGreatDoor.Sp
set_option linter.unusedVariables false
set_option linter.unusedSimpArgs false
set_option maxRecDepth 100000 in
set_option maxHeartbeats 2000000 in
theorem pcount_c (d : Nat) (hd : d ≤ 3) {S : Nat → Prop} {gb pb : Nat} {sv : Value} {now : Pos} {us : List Und} {W : World} (h : GmX W S gb pb sv now us) (hT : TabW W) (hS : InW S W) (hw : wellS now = 0) (hl : us.length + d ≤ 1000) : Calls Tryz.prog 76 #[.pointer (some ⟨gb, 0, none⟩), .int .i64 (d : Int)] W (LinesIs S gb pb now us d W) := by
  have HC := Aside0.mk (fun (W2 : World) (cb lb : Nat) (hb : Below W.heap.size W W2) (hc : C11 W2 S gb cb lb) => plines_c d hd S gb pb cb lb sv now us W2 (h.below hb) hc (hT.below hb) (fun k hk => ⟨(hS k hk).1, Nat.lt_of_lt_of_le (hS k hk).2 hb.size⟩) hw hl)
  have HG := Aside0.mk h
  have HS := Aside0.mk (fun k hk => (hS k hk).2)
  clear h hT hS hw hl hd
  go_enter Tryz.func76, Tryz.ntmps76
  go_wp2_with fail
  have hb2 := below_alloc (below_alloc (Below.refl W.heap.size W) (.cells #[.pointer (some ⟨gb, 0, none⟩)] 37)) (.cells #[.func (.func 114) #[] #[.pointer (some ⟨W.heap.size, 0, none⟩), .pointer (some ⟨W.heap.size + 1, 0, none⟩)]] 110)
  have hs : (W.alloc (.cells #[.pointer (some ⟨gb, 0, none⟩)] 37)).heap.size = W.heap.size + 1 := by simp
  refine (HC.out _ W.heap.size (W.heap.size + 1) hb2 ⟨⟨?_, ?_⟩, ⟨?_, ?_⟩⟩).mono ?_
  · rw [World.cell?_alloc_past _ _ _ (by rw [hs]; omega), World.cell?_alloc_at _ _ _ _ rfl]; rfl
  · intro hh; have := HS.out _ hh; omega
  · rw [World.cell?_alloc_at _ _ _ _ hs.symm]; rfl
  · intro hh; have := HS.out _ hh; omega
  rintro e w' ⟨S', sv', rfl, he⟩
  have HE := Aside0.mk (((E9.start HG.out).below hb2).trans he)
  clear he hs hb2
  go_wp2_with fail
  go_ret
  exact ⟨S', sv', rfl, HE.out⟩
/-- Why lines are not counted. -/
def pbegS (p : Pos) (d least : Int) : Int := if wellS p ≠ 0 then wellS p else if d < least ∨ 64 < d then 1 else 0
def BeginIs (p : Pos) (d least : Int) (W : World) (e : Ending) (w' : World) : Prop :=
  if pbegS p d least ≠ 0 then e = .returned (.tuple #[.pointer none, .int .i64 (pbegS p d least)]) ∧ Below W.heap.size W w'
  else ∃ gb pb, e = .returned (.tuple #[.pointer (some ⟨gb, 0, none⟩), .int .i64 0]) ∧ GmX w' (newIn W w') gb pb (.slice none 0 0) p [] ∧ Below W.heap.size W w'
set_option maxRecDepth 100000 in
set_option maxHeartbeats 4000000 in
theorem pbegin_c (p : Pos) (d least : Int) (W : World) (hT : TabW W) : Calls Tryz.prog 75 #[posV p, .int .i64 d, .int .i64 least] W (BeginIs p d least W) := by
  have hu := Tryz.underlying23
  have HT := Aside0.mk (fun (W' : World) (hb : Below W.heap.size W W') => hT.below hb)
  have HWL := Aside0.mk (fun (W' : World) (hT : TabW W') => well_c p W' hT)
  have HB0 := Aside0.mk (BoxP.new W p)
  have HL0 := Aside0.mk (below_alloc (Below.refl W.heap.size W) (.cells #[.string p.cells, .int .i64 p.side, .int .i64 p.clock, .int .i64 p.full] 23))
  have HN := Aside0.mk (fun (W : World) (hT : TabW W) => gnew_c p W hT)
  unfold NewIs at HN
  by_cases hw : wellS p = 0
  case neg =>
    have HR := Aside0.mk (fun (w' : World) (hb : Below W.heap.size W w') => show BeginIs p d least W (.returned (.tuple #[.pointer none, .int .i64 (wellS p)])) w' by unfold BeginIs pbegS; rw [if_pos hw, if_pos hw]; exact ⟨rfl, hb⟩)
    generalize hx : wellS p = x at *
    have hn : (x != 0) = true := by simpa using hw
    clear hx hT HN
    go_enter Tryz.func75, Tryz.ntmps75
    go_upto_region 1 with fail
    generalize W.alloc (.cells #[.string p.cells, .int .i64 p.side, .int .i64 p.clock, .int .i64 p.full] 23) = W1 at *
    obtain ⟨c0, c1, c2, c3⟩ := HB0.out
    go_wp2_with fail
    refine (HWL.out _ (HT.out _ HL0.out)).mono ?_
    rintro e w1 ⟨rfl, hb⟩
    have HB1 := Aside0.mk (below_go HL0.out hb)
    clear hb
    go_wp2_with fail
    refine bodyPost_ret (by simp [results, Tryz.results75, go_sem]; try rfl) rfl ?_
    exact HR.out _ HB1.out
  case pos =>
  rw [hw] at HWL
  by_cases hd : d < least ∨ 64 < d
  · have HR := Aside0.mk (fun (w' : World) (hb : Below W.heap.size W w') => show BeginIs p d least W (.returned (.tuple #[.pointer none, .int .i64 1])) w' by unfold BeginIs; rw [show pbegS p d least = 1 by unfold pbegS; rw [if_neg (not_not_intro hw), if_pos hd], if_pos (by decide)]; exact ⟨rfl, hb⟩)
    rcases (show d < least ∨ (¬ d < least ∧ 64 < d) by omega) with h1 | ⟨h1, h2⟩
    all_goals
      clear hw hT HN hd
      go_enter Tryz.func75, Tryz.ntmps75
      go_upto_region 1 with fail
      generalize W.alloc (.cells #[.string p.cells, .int .i64 p.side, .int .i64 p.clock, .int .i64 p.full] 23) = W1 at *
      obtain ⟨c0, c1, c2, c3⟩ := HB0.out
      go_wp2_with fail
      refine (HWL.out _ (HT.out _ HL0.out)).mono ?_
      rintro e w1 ⟨rfl, hb⟩
      have HB1 := Aside0.mk (below_go HL0.out hb)
      clear hb
      go_wp2_with fail
      refine bodyPost_ret (by simp [results, Tryz.results75, go_sem]; try rfl) rfl ?_
      exact HR.out _ HB1.out
  · have HR := Aside0.mk (fun (w' : World) (gb pb : Nat) (hg : GmX w' (newIn W w') gb pb (.slice none 0 0) p []) (hb : Below W.heap.size W w') => show BeginIs p d least W (.returned (.tuple #[.pointer (some ⟨gb, 0, none⟩), .int .i64 0])) w' by unfold BeginIs; rw [show pbegS p d least = 0 by unfold pbegS; rw [if_neg (not_not_intro hw), if_neg hd], if_neg (by decide)]; exact ⟨gb, pb, rfl, hg, hb⟩)
    have h1 : ¬ d < least := fun h => hd (.inl h)
    have h2 : ¬ 64 < d := fun h => hd (.inr h)
    have HN2 : Aside0 (∀ (W : World), TabW W → Calls Tryz.prog 21 #[posV p] W fun e w' => ∃ gb pb, e = .returned (.tuple #[.pointer (some ⟨gb, 0, none⟩), .int .i64 0]) ∧ GmX w' (newIn W w') gb pb (.slice none 0 0) p [] ∧ Below W.heap.size W w') := ⟨fun W hT => (HN.out W hT).mono (fun e w' h => by rwa [if_neg (by simpa using hw)] at h)⟩
    clear hw hT HN hd
    go_enter Tryz.func75, Tryz.ntmps75
    go_upto_region 1 with fail
    generalize W.alloc (.cells #[.string p.cells, .int .i64 p.side, .int .i64 p.clock, .int .i64 p.full] 23) = W1 at *
    obtain ⟨c0, c1, c2, c3⟩ := HB0.out
    go_wp2_with fail
    refine (HWL.out _ (HT.out _ HL0.out)).mono ?_
    rintro e w1 ⟨rfl, hb⟩
    have HB1 := Aside0.mk (below_go HL0.out hb)
    have HX1 := Aside0.mk (HB0.out.below hb)
    clear hb c0 c1 c2 c3
    obtain ⟨c0, c1, c2, c3⟩ := HX1.out
    go_wp2_with fail
    refine (HN2.out _ (HT.out _ HB1.out)).mono ?_
    rintro e w2 ⟨gb, pb, rfl, hg, hb⟩
    have HB2 := Aside0.mk (below_go HB1.out hb)
    have HG := Aside0.mk (hg.to (T := newIn W w2) (fun k hk hl => ⟨Nat.le_trans HB1.out.size hk.1, hl⟩))
    clear hg hb c0 c1 c2 c3
    go_wp2_with fail
    refine bodyPost_ret (by simp [results, Tryz.results75, go_sem]; try rfl) rfl ?_
    exact HR.out _ _ _ HG.out HB2.out
/-- How many lines there are, or why they are not counted. -/
def cntP (p : Pos) (d : Int) : Int × Int := if pbegS p d 0 ≠ 0 then (0, pbegS p d 0) else ((linesR p.cells p.side d.toNat : Nat), 0)
theorem pbeg_zero {p : Pos} {d least : Int} (h : pbegS p d least = 0) : wellS p = 0 ∧ least ≤ d ∧ d ≤ 64 := by
  unfold pbegS at h
  by_cases hw : wellS p ≠ 0
  · rw [if_pos hw] at h; exact absurd h hw
  · rw [if_neg hw] at h
    by_cases hd : d < least ∨ 64 < d
    · rw [if_pos hd] at h; exact absurd h (by decide)
    · exact ⟨by simpa using hw, by omega, by omega⟩
set_option maxRecDepth 100000 in
set_option maxHeartbeats 4000000 in
theorem pCount_c (p : Pos) (d : Int) (hd : d ≤ 3 ∨ 64 < d) (W : World) (hT : TabW W) : Calls Tryz.prog 40 #[posV p, .int .i64 d] W fun e w' => e = .returned (.tuple #[.int .i64 (cntP p d).1, .int .i64 (cntP p d).2]) ∧ Below W.heap.size W w' := by
  have hu := Tryz.underlying23
  have HB0 := Aside0.mk (BoxP.new W p)
  have HL0 := Aside0.mk (below_alloc (Below.refl W.heap.size W) (.cells #[.string p.cells, .int .i64 p.side, .int .i64 p.clock, .int .i64 p.full] 23))
  have HT := Aside0.mk (fun (W' : World) (hb : Below W.heap.size W W') => hT.below hb)
  have HBG := Aside0.mk (fun (W : World) (hT : TabW W) => pbegin_c p d 0 W hT)
  unfold BeginIs at HBG
  by_cases hb0 : pbegS p d 0 ≠ 0
  · have HR := Aside0.mk (show cntP p d = (0, pbegS p d 0) by unfold cntP; rw [if_pos hb0])
    have HB2 : Aside0 (∀ (W : World), TabW W → Calls Tryz.prog 75 #[posV p, .int .i64 d, .int .i64 0] W fun e w' => e = .returned (.tuple #[.pointer none, .int .i64 (pbegS p d 0)]) ∧ Below W.heap.size W w') := ⟨fun W hT => (HBG.out W hT).mono (fun e w' h => by rwa [if_pos hb0] at h)⟩
    generalize hx : pbegS p d 0 = x at *
    have hn : (x != 0) = true := by simpa using hb0
    clear hx hb0 HBG hT hd
    go_enter Tryz.func40, Tryz.ntmps40
    go_upto_region 1 with fail
    generalize W.alloc (.cells #[.string p.cells, .int .i64 p.side, .int .i64 p.clock, .int .i64 p.full] 23) = W1 at *
    obtain ⟨c0, c1, c2, c3⟩ := HB0.out
    go_wp2_with fail
    refine (HB2.out _ (HT.out _ HL0.out)).mono ?_
    rintro e w1 ⟨rfl, hb⟩
    have HB1 := Aside0.mk (below_go HL0.out hb)
    clear hb
    go_wp2_with fail
    refine bodyPost_ret (by simp [results, Tryz.results40, go_sem]; try rfl) rfl ?_
    rw [HR.out]
    exact ⟨rfl, HB1.out⟩
  · have hb1 : pbegS p d 0 = 0 := by simpa using hb0
    obtain ⟨hw, h0, h64⟩ := pbeg_zero hb1
    obtain ⟨dn, rfl⟩ : ∃ dn : Nat, d = (dn : Int) := ⟨d.toNat, by omega⟩
    have HR := Aside0.mk (show cntP p (dn : Int) = (((linesR p.cells p.side dn : Nat) : Int), (0 : Int)) by unfold cntP; rw [if_neg hb0]; rfl)
    have HB2 : Aside0 (∀ (W : World), TabW W → Calls Tryz.prog 75 #[posV p, .int .i64 (dn : Int), .int .i64 0] W fun e w' => ∃ gb pb, e = .returned (.tuple #[.pointer (some ⟨gb, 0, none⟩), .int .i64 0]) ∧ GmX w' (newIn W w') gb pb (.slice none 0 0) p [] ∧ Below W.heap.size W w') := ⟨fun W hT => (HBG.out W hT).mono (fun e w' h => by rwa [if_neg hb0] at h)⟩
    have HPC := Aside0.mk (fun (gb pb : Nat) (W1 w1 : World) (hg : GmX w1 (newIn W1 w1) gb pb (.slice none 0 0) p []) (hT1 : TabW W1) (hb : Below W1.heap.size W1 w1) => pcount_c dn (by omega) hg (hT1.below hb) (fun k hk => ⟨Nat.lt_of_lt_of_le hT1.lt hk.1, hk.2⟩) hw (by simp; omega))
    clear hb0 hb1 HBG hT hd hw h0 h64
    go_enter Tryz.func40, Tryz.ntmps40
    go_upto_region 1 with fail
    generalize W.alloc (.cells #[.string p.cells, .int .i64 p.side, .int .i64 p.clock, .int .i64 p.full] 23) = W1 at *
    obtain ⟨c0, c1, c2, c3⟩ := HB0.out
    go_wp2_with fail
    refine (HB2.out _ (HT.out _ HL0.out)).mono ?_
    rintro e w1 ⟨gb, pb, rfl, hg, hb⟩
    have HB1 := Aside0.mk (And.intro hg hb)
    clear hg hb c0 c1 c2 c3
    go_wp2_with fail
    refine (HPC.out _ _ W1 w1 HB1.out.1 (HT.out _ HL0.out) HB1.out.2).mono ?_
    rintro e w2 ⟨S', sv', rfl, he⟩
    have HB2 := Aside0.mk (show Below W.heap.size W w2 from (below_go HL0.out HB1.out.2).trans (he.ken.toBelow (Nat.le_trans HL0.out.size HB1.out.2.size) (fun k hk => Nat.le_trans HL0.out.size hk.1)))
    clear he
    go_wp2_with fail
    refine bodyPost_ret (by simp [results, Tryz.results40, go_sem]; try rfl) rfl ?_
    rw [HR.out]
    exact ⟨rfl, HB2.out⟩
end Go.Proofs.YtgmlojocafepiaaGreatDoor.K

/- Walk: a game's Unmake, as a deferred call. -/
namespace Go.Proofs.YtgmlojocafepiaaGreatDoor.K
open Go.RowKit Go.Lib Go.Proofs.YtgmlojocafepiaaGreatDoorW.PrintWords Go.Proofs.YtgmlojocafepiaaGreatDoor.Sp
set_option linter.unusedVariables false
set_option linter.unusedSimpArgs false
set_option maxRecDepth 100000 in
set_option maxHeartbeats 4000000 in
theorem gunmake_d (um : FrameMode) (S : Nat → Prop) (gb pb : Nat) (sv : Value) (p q : Pos) (us : List Und) (u : Und) (W : World) (hG : GmX W S gb pb sv q (us ++ [u])) (hok : OkMv p q u.mv u.tk) (hck : u.ck = p.clock) (hfl : u.fl = p.full) (hl : us.length < 1024) :
    CallsD Tryz.prog 23 #[.pointer (some ⟨gb, 0, none⟩)] um W fun e u' w' => u' = um ∧ UnIs S gb pb p us W e w' := by
  obtain ⟨⟨ma, mb⟩, tk, ck, fl⟩ := u
  have HCK := Aside0.mk hck
  have HFL := Aside0.mk hfl
  clear hck hfl
  obtain ⟨bb, cap, rfl, _⟩ := row_at hG.row (by simp)
  have hcap : us.length + 1 ≤ cap := by
    obtain ⟨_, ⟨h, _⟩ | ⟨g', cap', cur, h1, _, _, h2, _⟩⟩ := hG.row
    · cases h
    · simp only [Value.slice.injEq] at h1; obtain ⟨_, _, rfl⟩ := h1; simpa using h2
  have HU := Aside0.mk (und_cells hG.row us.length (by simp))
  have hlast : ((us ++ [(⟨(ma, mb), tk, ck, fl⟩ : Und)])[us.length]'(by simp)) = ⟨(ma, mb), tk, ck, fl⟩ := by simp
  rw [hlast] at HU
  have HN := Aside0.mk (UnAt.new hG ma mb tk ck fl)
  have hlen : (us ++ [(⟨(ma, mb), tk, ck, fl⟩ : Und)]).length = us.length + 1 := by simp
  obtain ⟨g0, _, _, _, _, _, _, _, _, _, p0, _, _, _, _, _, _⟩ := hG
  rw [hlen] at p0
  obtain ⟨v0, v1, v2, v3, v4⟩ := HU.out
  simp only at v0 v1 v2 v3 v4
  have hbd := hok.bd
  have HBK := Aside0.mk hok.back
  have ha := hok.a90
  have hb := hok.b90
  have z1 : IntKind.i64.wrap ((us.length : Int) + 1 - 1) = us.length := by rw [IntKind.wrap_i64]; omega
  have z2 : IntKind.i64.wrap (us.length : Int) = us.length := by rw [IntKind.wrap_i64]; omega
  have m0 : 0 ≤ (us.length : Int) := by omega
  have m1 : (us.length : Int) < (us.length : Int) + 1 := by omega
  have m2 : (us.length : Int) ≤ (cap : Int) := by omega
  have m3 : (us.length : Int) + 1 ≤ (cap : Int) := by omega
  have m4 : (us.length : Int) + 1 ≠ 0 := by omega
  clear hlast HU hcap hl
  go_enter_d Tryz.func23, Tryz.ntmps23
  go_wp2_with fail
  go_cut [3] from 19 to 36 (fun s3 wx => ∃ ub, s3 = .pointer (some ⟨ub, 0, none⟩) ∧ Aside0 (UnAt W wx S gb pb (.slice (some ⟨bb, 0, none⟩) (us ++ [(⟨(ma, mb), tk, ck, fl⟩ : Und)]).length cap) q (loB (sqF q.cells 0)) (hiB (sqF q.cells 0)) (loB (sqF q.cells 1)) (hiB (sqF q.cells 1)) (us ++ [(⟨(ma, mb), tk, ck, fl⟩ : Und)]) ⟨(ma, mb), tk, ck, fl⟩ ub))
  case first =>
    go_region_held3 (fun V => V.cell? ⟨gb, 0, none⟩ = some (.pointer (some ⟨pb, 0, none⟩)) ∧ V.cell? ⟨pb, 0, none⟩ = some (.slice (some ⟨bb, 0, none⟩) (us.length + 1) cap) ∧ V.cell? ⟨bb, us.length * 5, none⟩ = some (.int .i64 (ma : Int)) ∧ V.cell? ⟨bb, us.length * 5 + 1, none⟩ = some (.int .i64 (mb : Int)) ∧ V.cell? ⟨bb, us.length * 5 + 2, none⟩ = some (.int .u8 (tk : Int)) ∧ V.cell? ⟨bb, us.length * 5 + 3, none⟩ = some (.int .i64 ck) ∧ V.cell? ⟨bb, us.length * 5 + 4, none⟩ = some (.int .i64 fl)) (go_keep) (fail)
    all_goals
      go_wp2_with fail
      go_meet
      first
      | exact ⟨_, rfl, HN⟩
      | exact ⟨_, rfl, ⟨HN.out.drew⟩⟩
  case rest =>
  obtain ⟨ub, rfl, HQ⟩ := hcut
  clear HN g0 p0 v0 v1 v2 v3 v4
  obtain ⟨g0, g1, g2, g3, g4, g5, g6, g7, g8, gf, p0, pf, _, hne, _, _, _⟩ := HQ.out.gm
  rw [hlen] at p0
  have hne2 : pb ≠ gb := fun h => hne h.symm
  go_wp2_with fail
  go_cut [2] from 37 to 59 (fun s2 wx => s2 = .int .i64 0 ∧ Aside0 (UnAt W wx S gb pb (.slice (some ⟨bb, 0, none⟩) us.length cap) q (loB (sqF q.cells 0)) (hiB (sqF q.cells 0)) (loB (sqF q.cells 1)) (hiB (sqF q.cells 1)) us ⟨(ma, mb), tk, ck, fl⟩ ub))
  case first =>
    go_still_tail 23, (by kernel_rfl)
    change wpList _ _ _ _ _ wc.drew
    have HQD := Aside0.mk HQ.out.drew
    have p0' := HQD.out.gm.p0
    have pf' := HQD.out.gm.pf
    rw [hlen] at p0'
    generalize wc.drew = W2 at *
    go_wp2_with fail
    go_meet
    exact ⟨rfl, ⟨HQD.out.stack rfl⟩⟩
  case rest =>
  obtain ⟨rfl, HQ2⟩ := hcut
  clear g0 g1 g2 g3 g4 g5 g6 g7 g8 gf p0 pf HQ hne2 hne z1 z2 m0 m1 m2 m3 m4 hlen
  have hsz0 := board_size hok.qbd
  have HSZ := Aside0.mk hsz0
  obtain ⟨g0, g1, g2, g3, g4, g5, g6, g7, g8, gf, _, _, _, _, _, _, _⟩ := HQ2.out.gm
  have kb := fun W => print_bytes (P := Tryz.prog) 9 94 5 Tryz.underlying9 Tryz.underlying94 Tryz.underlying5 q.cells W
  have HW := Aside0.mk hok
  clear hok hsz0 hbd
  go_wp2_with (simp only [kb])
  have HB := Aside0.mk (UbAt.new HQ2.out q.cells)
  generalize Lib.bytesWorld wc 5 q.cells = W8 at *
  generalize hyc : grownCap wc q.cells.size 0 5 = yc at *
  generalize hyb : wc.heap.size = yb at *
  clear hyc hyb HQ2 kb g0 g1 g2 g3 g4 g5 g6 g7 g8 gf
  have hsz : (q.cells.size : Int) = 90 := by rw [HSZ.out]; rfl
  have a0 : 0 ≤ (ma : Int) := by omega
  have a1 : (ma : Int) < 90 := by omega
  have b0 : 0 ≤ (mb : Int) := by omega
  have b1 : (mb : Int) < 90 := by omega
  obtain ⟨_, u0, u1, u2, u3, u4, _, _, _, _⟩ := HB.out.un
  simp only at u0 u1 u2 u3 u4
  obtain ⟨ka, fa⟩ := HB.out.bt ma (by rw [bytesOf_length, HSZ.out]; omega)
  obtain ⟨kb2, fb⟩ := HB.out.bt mb (by rw [bytesOf_length, HSZ.out]; omega)
  have HXB := Aside0.mk (show (bytesOf q.cells).getD mb 0 = (cel q.cells mb : Int) from bytes_getD q.cells mb (by rw [HSZ.out]; omega))
  rw [HXB.out] at kb2
  have HBK2 : Aside0 (strOfNums (((bytesOf q.cells).set ma (cel q.cells mb : Int)).set mb (if tk = 0 then 46 else (tk : Int))) = p.cells) := HBK
  obtain ⟨ks, fs⟩ := (HB.out.bt.set ma (cel q.cells mb : Int)) mb (by rw [List.length_set, bytesOf_length, HSZ.out]; omega)
  generalize ((bytesOf q.cells).set ma (cel q.cells mb : Int)).getD mb 0 = xs at ks
  generalize (bytesOf q.cells).getD ma 0 = xa at *
  generalize cel q.cells mb = x at *
  have yn : yb ≠ ub := by have := HB.out.ylt.1; omega
  have yn2 : ub ≠ yb := fun h => yn h.symm
  clear HBK
  go_region
  have HB2 := Aside0.mk ((HB.out.put ma (x : Int)).put mb 46).drew
  generalize ((W8.setCell ⟨yb, ma, none⟩ (.int .u8 (x : Int))).setCell ⟨yb, mb, none⟩ (.int .u8 46)).drew = W9 at *
  clear HB u0 u1 u2 u3 u4 ka fa kb2 fb ks fs HXB
  have HL2 := Aside0.mk (show (((bytesOf q.cells).set ma (x : Int)).set mb 46).length = q.cells.size by rw [List.length_set, List.length_set, bytesOf_length])
  have HL3 := Aside0.mk (show ((((bytesOf q.cells).set ma (x : Int)).set mb 46).set mb (tk : Int)).length = q.cells.size by rw [List.length_set, List.length_set, List.length_set, bytesOf_length])
  have hz1 : IntKind.i64.wrap ((1 : Int) - 0) = 1 := by decide
  have hz2 : IntKind.i64.wrap ((1 : Int) - 1) = 0 := by decide
  have hz3 : IntKind.i64.wrap 1 = 1 := by decide
  have hz4 : IntKind.i64.wrap 0 = 0 := by decide
  rcases HW.out.sd with hs | hs
  · have hq : q.side = 1 := by rw [HW.out.qs, hs]; rfl
    have HO : setF (putF (cutF (sqF q.cells 0) mb) ma) = setF (sqF p.cells 0) := by have h := HW.out.back_own; rw [hs] at h; exact h
    have HO2 : (tk = 0 → setF (sqF q.cells 1) = setF (sqF p.cells 1)) ∧ (tk ≠ 0 → setF (putF (sqF q.cells 1) mb) = setF (sqF p.cells 1)) := by have h := HW.out.back_oth; rw [hs, show ((1 : Int) - 0) = 1 from rfl] at h; exact h
    have HW1 := Aside0.mk (fun V => without_c (sqF q.cells 0) mb hb V)
    have HW2 := Aside0.mk (fun V => with_c (cutF (sqF q.cells 0) mb) ma ha V)
    have HW3 := Aside0.mk (fun V => with_c (sqF q.cells 1) mb hb V)
    rw [HO] at HW2
    have HO3 := Aside0.mk HO2
    have HQS := Aside0.mk hq
    have HS := Aside0.mk hs
    clear HO HO2 hq hs ha hb HW
    unfold setF at HW1 HW2 HW3 HO3
    generalize loB (putF (sqF q.cells 1) mb) = E3 at *
    generalize hiB (putF (sqF q.cells 1) mb) = F3 at *
    generalize loB (cutF (sqF q.cells 0) mb) = E1 at *
    generalize hiB (cutF (sqF q.cells 0) mb) = F1 at *
    generalize loB (sqF q.cells 0) = A0 at *
    generalize hiB (sqF q.cells 0) = B0 at *
    generalize loB (sqF q.cells 1) = C0 at *
    generalize hiB (sqF q.cells 1) = D0 at *
    generalize hA : loB (sqF p.cells 0) = A2 at HW2 HO3
    generalize hB : hiB (sqF p.cells 0) = B2 at HW2 HO3
    generalize hC : loB (sqF p.cells 1) = C2 at HW2 HO3
    generalize hD : hiB (sqF p.cells 1) = D2 at HW2 HO3
    have HA := Aside0.mk hA
    have HBB := Aside0.mk hB
    have HC := Aside0.mk hC
    have HD := Aside0.mk hD
    clear hA hB hC hD
    obtain ⟨g0, g1, g2, g3, g4, g5, g6, g7, g8, gf, _, _, _, _, _, _, _⟩ := HB2.out.un.gm
    obtain ⟨_, u0, u1, u2, u3, u4, _, _, _, _⟩ := HB2.out.un
    simp only at u0 u1 u2 u3 u4
    rw [HQS.out] at g2
    have gn1 : gb ≠ ub := by have := HB2.out.un.low; have := HB2.out.un.uge; omega
    have gn2 : ub ≠ gb := fun h => gn1 h.symm
    have HX5 := Aside0.mk HB2.out.drew
    clear HB2
    go_wp2_with fail
    refine wp_region_held_drew (S := (fun V => V.cell? ⟨ub, 0, none⟩ = some (.int .i64 (ma : Int)) ∧ V.cell? ⟨ub, 1, none⟩ = some (.int .i64 (mb : Int)))) (by kernel_rfl) ?_ (fun hHeld => ?_)
    · (try dsimp only)
      go_keep
    refine wpAnyH_take (i := 0) (v := ?_) rfl (by kernel_rfl) (by kernel_rfl) (by kernel_rfl) (fun _ _ _ h => h) (Or.inl ⟨by rfl, ?_⟩) (by assumption) ?_
    rotate_left
    · (intro w hSw; (try dsimp only at hSw); go_simp); (try with_reducible rfl)
    (try simp only [Act.put, List.setIfInBounds_toArray, List.set_cons_zero, List.set_cons_succ])
    refine wpAnyH_take (i := 1) (v := ?_) rfl (by kernel_rfl) (by kernel_rfl) (by kernel_rfl) (fun _ _ _ h => h) (Or.inl ⟨by rfl, ?_⟩) (by assumption) ?_
    rotate_left
    · (intro w hSw; (try dsimp only at hSw); go_simp); (try with_reducible rfl)
    (try simp only [Act.put, List.setIfInBounds_toArray, List.set_cons_zero, List.set_cons_succ])
    refine wpAnyH_take (i := 2) (v := ?_) rfl (by kernel_rfl) (by kernel_rfl) (by kernel_rfl) (fun _ _ _ h => h) (Or.inl ⟨by rfl, ?_⟩) (by assumption) ?_
    rotate_left
    · (intro w hSw; (try dsimp only at hSw); go_simp); (try with_reducible rfl)
    (try simp only [Act.put, List.setIfInBounds_toArray, List.set_cons_zero, List.set_cons_succ])
    refine wpAnyH_take (i := 3) (v := ?_) rfl (by kernel_rfl) (by kernel_rfl) (by kernel_rfl) (fun _ _ _ h => h) (Or.inl ⟨by rfl, ?_⟩) (by assumption) ?_
    rotate_left
    · (intro w hSw; (try dsimp only at hSw); go_simp); (try with_reducible rfl)
    (try simp only [Act.put, List.setIfInBounds_toArray, List.set_cons_zero, List.set_cons_succ])
    refine wpAnyH_take (i := 4) (v := ?_) rfl (by kernel_rfl) (by kernel_rfl) (by kernel_rfl) (fun _ _ _ h => h) (Or.inl ⟨by rfl, ?_⟩) (by assumption) ?_
    rotate_left
    · (intro w hSw; (try dsimp only at hSw); go_simp); (try with_reducible rfl)
    (try simp only [Act.put, List.setIfInBounds_toArray, List.set_cons_zero, List.set_cons_succ])
    refine wpAnyH_take (i := 5) (v := ?_) rfl (by kernel_rfl) (by kernel_rfl) (by kernel_rfl) (fun _ _ _ h => h) (Or.inl ⟨by rfl, ?_⟩) (by assumption) ?_
    rotate_left
    · (intro w hSw; (try dsimp only at hSw); go_simp); (try with_reducible rfl)
    (try simp only [Act.put, List.setIfInBounds_toArray, List.set_cons_zero, List.set_cons_succ])
    refine wpAnyH_take (i := 6) (v := ?_) rfl (by kernel_rfl) (by kernel_rfl) (by kernel_rfl) (fun _ _ _ h => h) (Or.inl ⟨by rfl, ?_⟩) (by assumption) ?_
    rotate_left
    · (intro w hSw; (try dsimp only at hSw); go_simp); (try with_reducible rfl)
    (try simp only [Act.put, List.setIfInBounds_toArray, List.set_cons_zero, List.set_cons_succ])
    refine wpAnyH_take (i := 8) (v := ?_) rfl (by kernel_rfl) (by kernel_rfl) (by kernel_rfl) (fun _ _ _ h => h) (Or.inl ⟨by rfl, ?_⟩) (by assumption) ?_
    rotate_left
    · (intro w hSw; (try dsimp only at hSw); go_simp); (try with_reducible rfl)
    (try simp only [Act.put, List.setIfInBounds_toArray, List.set_cons_zero, List.set_cons_succ])
    refine wpAnyH_take (i := 9) (v := ?_) rfl (by kernel_rfl) (by kernel_rfl) (by kernel_rfl) (fun _ _ _ h => h) (Or.inl ⟨by rfl, ?_⟩) (by assumption) ?_
    rotate_left
    · (intro w hSw; (try dsimp only at hSw); go_simp); (try with_reducible rfl)
    (try simp only [Act.put, List.setIfInBounds_toArray, List.set_cons_zero, List.set_cons_succ])
    refine wpAnyH_take (i := 10) (v := ?_) rfl (by kernel_rfl) (by kernel_rfl) (by kernel_rfl) (fun _ _ _ h => h) (Or.inl ⟨by rfl, ?_⟩) (by assumption) ?_
    rotate_left
    · (intro w hSw; (try dsimp only at hSw); go_simp); (try with_reducible rfl)
    (try simp only [Act.put, List.setIfInBounds_toArray, List.set_cons_zero, List.set_cons_succ])
    refine wpAnyH_take (i := 12) (v := ?_) rfl (by kernel_rfl) (by kernel_rfl) (by kernel_rfl) (fun _ _ _ h => h) (Or.inl ⟨by rfl, ?_⟩) (by assumption) ?_
    rotate_left
    · (intro w hSw; (try dsimp only at hSw); go_simp); (try with_reducible rfl)
    (try simp only [Act.put, List.setIfInBounds_toArray, List.set_cons_zero, List.set_cons_succ])
    refine wpAnyH_take (i := 13) (v := ?_) rfl (by kernel_rfl) (by kernel_rfl) (by kernel_rfl) (fun _ _ _ h => h) (Or.inl ⟨by rfl, ?_⟩) (by assumption) ?_
    rotate_left
    · (intro w hSw; (try dsimp only at hSw); go_simp); (try with_reducible rfl)
    (try simp only [Act.put, List.setIfInBounds_toArray, List.set_cons_zero, List.set_cons_succ])
    refine wpAnyH_take (i := 14) (v := ?_) rfl (by kernel_rfl) (by kernel_rfl) (by kernel_rfl) (fun _ _ _ h => h) (Or.inl ⟨by rfl, ?_⟩) (by assumption) ?_
    rotate_left
    · (intro w hSw; (try dsimp only at hSw); go_simp); (try with_reducible rfl)
    (try simp only [Act.put, List.setIfInBounds_toArray, List.set_cons_zero, List.set_cons_succ])
    refine wpAnyH_take (i := 16) (v := ?_) rfl (by kernel_rfl) (by kernel_rfl) (by kernel_rfl) (fun _ _ _ h => h) (Or.inl ⟨by rfl, ?_⟩) (by assumption) ?_
    rotate_left
    · (intro w hSw; (try dsimp only at hSw); go_simp); (try with_reducible rfl)
    (try simp only [Act.put, List.setIfInBounds_toArray, List.set_cons_zero, List.set_cons_succ])
    refine wpAnyH_take (i := 17) (v := ?_) rfl (by kernel_rfl) (by kernel_rfl) (by kernel_rfl) (fun _ _ _ h => h) (Or.inl ⟨by rfl, ?_⟩) (by assumption) ?_
    rotate_left
    · (intro w hSw; (try dsimp only at hSw); go_simp); (try with_reducible rfl)
    (try simp only [Act.put, List.setIfInBounds_toArray, List.set_cons_zero, List.set_cons_succ])
    refine wpAnyH_ready (rs := [7]) (by kernel_rfl) (by simp) ?_
    refine AllReadyH.cons rfl (fun K hK => ?_) AllReadyH.nil
    go_simp
    refine hK.out _ _ ?_ (fun hHeld2 => ?_)
    · (try dsimp only)
      go_keep
    clear hK K
    (try simp only [Act.put, List.setIfInBounds_toArray, List.set_cons_zero, List.set_cons_succ])
    refine wpAnyH_ready (rs := [11]) (by kernel_rfl) (by simp) ?_
    refine AllReadyH.cons rfl (fun K hK => ?_) AllReadyH.nil
    (go_simp; go_at_call 65; (with_reducible refine (HW1.out _).mono ?_); rintro e w6 ⟨rfl, hb⟩; have HX6 := Aside0.mk (HX5.out.below hb); clear HX5 hb g0 g1 g2 g3 g4 g5 g6 g7 g8 gf u0 u1 u2 u3 u4; obtain ⟨g0, g1, g2, g3, g4, g5, g6, g7, g8, gf, _, _, _, _, _, _, _⟩ := HX6.out.un.gm; obtain ⟨_, u0, u1, u2, u3, u4, _, _, _, _⟩ := HX6.out.un; simp only at u0 u1 u2 u3 u4; (try go_wp2_with fail))
    refine hK.out _ _ ?_ (fun hHeld3 => ?_)
    · (try dsimp only)
      go_keep
    clear hK K
    (try simp only [Act.put, List.setIfInBounds_toArray, List.set_cons_zero, List.set_cons_succ])
    refine wpAnyH_ready (rs := [15]) (by kernel_rfl) (by simp) ?_
    refine AllReadyH.cons rfl (fun K hK => ?_) AllReadyH.nil
    (go_simp; go_at_call 66; (with_reducible refine (HW2.out _).mono ?_); rintro e w7 ⟨rfl, hb⟩; have HX7 := Aside0.mk (HX6.out.below hb); clear HX6 hb g0 g1 g2 g3 g4 g5 g6 g7 g8 gf u0 u1 u2 u3 u4; obtain ⟨g0, g1, g2, g3, g4, g5, g6, g7, g8, gf, _, _, _, _, _, _, _⟩ := HX7.out.un.gm; obtain ⟨_, u0, u1, u2, u3, u4, _, _, _, _⟩ := HX7.out.un; simp only at u0 u1 u2 u3 u4; (try go_wp2_with fail))
    refine hK.out _ _ ?_ (fun hHeld4 => ?_)
    · (try dsimp only)
      go_keep
    clear hK K
    (try simp only [Act.put, List.setIfInBounds_toArray, List.set_cons_zero, List.set_cons_succ])
    refine wpAnyH_take (i := 18) (v := ?_) rfl (by kernel_rfl) (by kernel_rfl) (by kernel_rfl) (fun _ _ _ h => h) (Or.inl ⟨by rfl, ?_⟩) (by assumption) ?_
    rotate_left
    · (intro w hSw; (try dsimp only at hSw); go_simp); (try with_reducible rfl)
    (try simp only [Act.put, List.setIfInBounds_toArray, List.set_cons_zero, List.set_cons_succ])
    refine wpAnyH_ready (rs := [19]) (by kernel_rfl) (by simp) ?_
    refine AllReadyH.cons rfl (fun K hK => ?_) AllReadyH.nil
    go_simp
    refine hK.out _ _ ?_ (fun hHeld5 => ?_)
    · (try dsimp only)
      go_keep
    clear hK K
    (try simp only [Act.put, List.setIfInBounds_toArray, List.set_cons_zero, List.set_cons_succ])
    refine wpAnyH_done (by kernel_rfl) ?_ _
    all_goals
      have HX8 := Aside0.mk (HX7.out.setRed A2 B2)
      clear HX7 g0 g1 g2 g3 g4 g5 g6 g7 g8 gf u0 u1 u2 u3 u4
      generalize (w7.setCell ⟨gb, 5, none⟩ (.int .u64 (A2 : Int))).setCell ⟨gb, 6, none⟩ (.int .u64 (B2 : Int)) = W11 at *
      by_cases htk : tk = 0
      case pos =>
        obtain ⟨rfl, rfl⟩ := setV_inj (HO3.out.1 htk)
        have hbs := HX8.out.bt
        have kc := bytes_string hbs 94 Tryz.underlying94 (cap := yc)
        rw [HL2.out, show (((bytesOf q.cells).set ma (x : Int)).set mb 46) = (((bytesOf q.cells).set ma (x : Int)).set mb (if tk = 0 then 46 else (tk : Int))) by rw [if_pos htk], HBK2.out] at kc
        have HF := Aside0.mk (HX8.out.fin (p := p) HA.out HBB.out HC.out HD.out)
        rw [HS.out, ← HCK.out, ← HFL.out] at HF
        obtain ⟨g0, g1, g2, g3, g4, g5, g6, g7, g8, gf, _, _, _, _, _, _, _⟩ := HX8.out.un.gm
        obtain ⟨_, u0, u1, u2, u3, u4, _, _, _, _⟩ := HX8.out.un
        simp only at u0 u1 u2 u3 u4
        have hb0 : ((tk : Int) != 0) = false := by simp [htk]
        have hb1 : ((tk : Int) == 0) = true := by simp [htk]
        clear HX8 hbs
        go_wp2_with (simp only [kc])
        go_ret
        exact ⟨_, rfl, HF.out⟩
      case neg =>
        rw [HO3.out.2 htk] at HW3
        obtain ⟨ky, fy⟩ := HX8.out.bt mb (by rw [HL2.out, HSZ.out]; omega)
        generalize (((bytesOf q.cells).set ma (x : Int)).set mb 46).getD mb 0 = xq at *
        obtain ⟨g0, g1, g2, g3, g4, g5, g6, g7, g8, gf, _, _, _, _, _, _, _⟩ := HX8.out.un.gm
        obtain ⟨_, u0, u1, u2, u3, u4, _, _, _, _⟩ := HX8.out.un
        simp only at u0 u1 u2 u3 u4
        have hb0 : ((tk : Int) != 0) = true := by simp [htk]
        have hb1 : ((tk : Int) == 0) = false := by simp [htk]
        have HTK := Aside0.mk htk
        clear htk
        go_wp2_with fail
        have HX9 := Aside0.mk ((HX8.out.put mb (tk : Int)).drew)
        have HX9' := Aside0.mk (HX8.out.put mb (tk : Int))
        clear HX8 g0 g1 g2 g3 g4 g5 g6 g7 g8 gf u0 u1 u2 u3 u4 ky fy
        generalize W11.setCell ⟨yb, mb, none⟩ (.int .u8 (tk : Int)) = W12 at *
        obtain ⟨g0, g1, g2, g3, g4, g5, g6, g7, g8, gf, _, _, _, _, _, _, _⟩ := HX9'.out.un.gm
        obtain ⟨_, u0, u1, u2, u3, u4, _, _, _, _⟩ := HX9'.out.un
        simp only at u0 u1 u2 u3 u4
        clear HX9'
        refine wp_region_held_drew (S := (fun V => V.cell? ⟨ub, 0, none⟩ = some (.int .i64 (ma : Int)) ∧ V.cell? ⟨ub, 1, none⟩ = some (.int .i64 (mb : Int)))) (by kernel_rfl) ?_ (fun hHeld => ?_)
        · (try dsimp only)
          go_keep
        refine wpAnyH_take (i := 0) (v := ?_) rfl (by kernel_rfl) (by kernel_rfl) (by kernel_rfl) (fun _ _ _ h => h) (Or.inl ⟨by rfl, ?_⟩) (by assumption) ?_
        rotate_left
        · (intro w hSw; (try dsimp only at hSw); go_simp); (try with_reducible rfl)
        (try simp only [Act.put, List.setIfInBounds_toArray, List.set_cons_zero, List.set_cons_succ])
        refine wpAnyH_take (i := 1) (v := ?_) rfl (by kernel_rfl) (by kernel_rfl) (by kernel_rfl) (fun _ _ _ h => h) (Or.inl ⟨by rfl, ?_⟩) (by assumption) ?_
        rotate_left
        · (intro w hSw; (try dsimp only at hSw); go_simp); (try with_reducible rfl)
        (try simp only [Act.put, List.setIfInBounds_toArray, List.set_cons_zero, List.set_cons_succ])
        refine wpAnyH_take (i := 2) (v := ?_) rfl (by kernel_rfl) (by kernel_rfl) (by kernel_rfl) (fun _ _ _ h => h) (Or.inl ⟨by rfl, ?_⟩) (by assumption) ?_
        rotate_left
        · (intro w hSw; (try dsimp only at hSw); go_simp); (try with_reducible rfl)
        (try simp only [Act.put, List.setIfInBounds_toArray, List.set_cons_zero, List.set_cons_succ])
        refine wpAnyH_take (i := 3) (v := ?_) rfl (by kernel_rfl) (by kernel_rfl) (by kernel_rfl) (fun _ _ _ h => h) (Or.inl ⟨by rfl, ?_⟩) (by assumption) ?_
        rotate_left
        · (intro w hSw; (try dsimp only at hSw); go_simp); (try with_reducible rfl)
        (try simp only [Act.put, List.setIfInBounds_toArray, List.set_cons_zero, List.set_cons_succ])
        refine wpAnyH_take (i := 4) (v := ?_) rfl (by kernel_rfl) (by kernel_rfl) (by kernel_rfl) (fun _ _ _ h => h) (Or.inl ⟨by rfl, ?_⟩) (by assumption) ?_
        rotate_left
        · (intro w hSw; (try dsimp only at hSw); go_simp); (try with_reducible rfl)
        (try simp only [Act.put, List.setIfInBounds_toArray, List.set_cons_zero, List.set_cons_succ])
        refine wpAnyH_take (i := 5) (v := ?_) rfl (by kernel_rfl) (by kernel_rfl) (by kernel_rfl) (fun _ _ _ h => h) (Or.inl ⟨by rfl, ?_⟩) (by assumption) ?_
        rotate_left
        · (intro w hSw; (try dsimp only at hSw); go_simp); (try with_reducible rfl)
        (try simp only [Act.put, List.setIfInBounds_toArray, List.set_cons_zero, List.set_cons_succ])
        refine wpAnyH_take (i := 6) (v := ?_) rfl (by kernel_rfl) (by kernel_rfl) (by kernel_rfl) (fun _ _ _ h => h) (Or.inl ⟨by rfl, ?_⟩) (by assumption) ?_
        rotate_left
        · (intro w hSw; (try dsimp only at hSw); go_simp); (try with_reducible rfl)
        (try simp only [Act.put, List.setIfInBounds_toArray, List.set_cons_zero, List.set_cons_succ])
        refine wpAnyH_take (i := 7) (v := ?_) rfl (by kernel_rfl) (by kernel_rfl) (by kernel_rfl) (fun _ _ _ h => h) (Or.inl ⟨by rfl, ?_⟩) (by assumption) ?_
        rotate_left
        · (intro w hSw; (try dsimp only at hSw); go_simp); (try with_reducible rfl)
        (try simp only [Act.put, List.setIfInBounds_toArray, List.set_cons_zero, List.set_cons_succ])
        refine wpAnyH_take (i := 8) (v := ?_) rfl (by kernel_rfl) (by kernel_rfl) (by kernel_rfl) (fun _ _ _ h => h) (Or.inl ⟨by rfl, ?_⟩) (by assumption) ?_
        rotate_left
        · (intro w hSw; (try dsimp only at hSw); go_simp); (try with_reducible rfl)
        (try simp only [Act.put, List.setIfInBounds_toArray, List.set_cons_zero, List.set_cons_succ])
        refine wpAnyH_take (i := 10) (v := ?_) rfl (by kernel_rfl) (by kernel_rfl) (by kernel_rfl) (fun _ _ _ h => h) (Or.inl ⟨by rfl, ?_⟩) (by assumption) ?_
        rotate_left
        · (intro w hSw; (try dsimp only at hSw); go_simp); (try with_reducible rfl)
        (try simp only [Act.put, List.setIfInBounds_toArray, List.set_cons_zero, List.set_cons_succ])
        refine wpAnyH_take (i := 11) (v := ?_) rfl (by kernel_rfl) (by kernel_rfl) (by kernel_rfl) (fun _ _ _ h => h) (Or.inl ⟨by rfl, ?_⟩) (by assumption) ?_
        rotate_left
        · (intro w hSw; (try dsimp only at hSw); go_simp); (try with_reducible rfl)
        (try simp only [Act.put, List.setIfInBounds_toArray, List.set_cons_zero, List.set_cons_succ])
        refine wpAnyH_take (i := 12) (v := ?_) rfl (by kernel_rfl) (by kernel_rfl) (by kernel_rfl) (fun _ _ _ h => h) (Or.inl ⟨by rfl, ?_⟩) (by assumption) ?_
        rotate_left
        · (intro w hSw; (try dsimp only at hSw); go_simp); (try with_reducible rfl)
        (try simp only [Act.put, List.setIfInBounds_toArray, List.set_cons_zero, List.set_cons_succ])
        refine wpAnyH_take (i := 14) (v := ?_) rfl (by kernel_rfl) (by kernel_rfl) (by kernel_rfl) (fun _ _ _ h => h) (Or.inl ⟨by rfl, ?_⟩) (by assumption) ?_
        rotate_left
        · (intro w hSw; (try dsimp only at hSw); go_simp); (try with_reducible rfl)
        (try simp only [Act.put, List.setIfInBounds_toArray, List.set_cons_zero, List.set_cons_succ])
        refine wpAnyH_take (i := 15) (v := ?_) rfl (by kernel_rfl) (by kernel_rfl) (by kernel_rfl) (fun _ _ _ h => h) (Or.inl ⟨by rfl, ?_⟩) (by assumption) ?_
        rotate_left
        · (intro w hSw; (try dsimp only at hSw); go_simp); (try with_reducible rfl)
        (try simp only [Act.put, List.setIfInBounds_toArray, List.set_cons_zero, List.set_cons_succ])
        refine wpAnyH_ready (rs := [9]) (by kernel_rfl) (by simp) ?_
        refine AllReadyH.cons rfl (fun K hK => ?_) AllReadyH.nil
        go_simp
        refine hK.out _ _ ?_ (fun hHeld2 => ?_)
        · (try dsimp only)
          go_keep
        clear hK K
        (try simp only [Act.put, List.setIfInBounds_toArray, List.set_cons_zero, List.set_cons_succ])
        refine wpAnyH_ready (rs := [13]) (by kernel_rfl) (by simp) ?_
        refine AllReadyH.cons rfl (fun K hK => ?_) AllReadyH.nil
        (go_simp; go_at_call 66; (with_reducible refine (HW3.out _).mono ?_); rintro e w10 ⟨rfl, hb⟩; have HX10 := Aside0.mk (HX9.out.below hb); clear HX9 hb g0 g1 g2 g3 g4 g5 g6 g7 g8 gf u0 u1 u2 u3 u4; obtain ⟨g0, g1, g2, g3, g4, g5, g6, g7, g8, gf, _, _, _, _, _, _, _⟩ := HX10.out.un.gm; obtain ⟨_, u0, u1, u2, u3, u4, _, _, _, _⟩ := HX10.out.un; simp only at u0 u1 u2 u3 u4; (try go_wp2_with fail))
        refine hK.out _ _ ?_ (fun hHeld3 => ?_)
        · (try dsimp only)
          go_keep
        clear hK K
        (try simp only [Act.put, List.setIfInBounds_toArray, List.set_cons_zero, List.set_cons_succ])
        refine wpAnyH_take (i := 16) (v := ?_) rfl (by kernel_rfl) (by kernel_rfl) (by kernel_rfl) (fun _ _ _ h => h) (Or.inl ⟨by rfl, ?_⟩) (by assumption) ?_
        rotate_left
        · (intro w hSw; (try dsimp only at hSw); go_simp); (try with_reducible rfl)
        (try simp only [Act.put, List.setIfInBounds_toArray, List.set_cons_zero, List.set_cons_succ])
        refine wpAnyH_ready (rs := [17]) (by kernel_rfl) (by simp) ?_
        refine AllReadyH.cons rfl (fun K hK => ?_) AllReadyH.nil
        go_simp
        refine hK.out _ _ ?_ (fun hHeld4 => ?_)
        · (try dsimp only)
          go_keep
        clear hK K
        (try simp only [Act.put, List.setIfInBounds_toArray, List.set_cons_zero, List.set_cons_succ])
        refine wpAnyH_done (by kernel_rfl) ?_ _
        all_goals
          have HX11 := Aside0.mk (HX10.out.setBlack C2 D2)
          clear HX10 g0 g1 g2 g3 g4 g5 g6 g7 g8 gf u0 u1 u2 u3 u4
          generalize (w10.setCell ⟨gb, 7, none⟩ (.int .u64 (C2 : Int))).setCell ⟨gb, 8, none⟩ (.int .u64 (D2 : Int)) = W13 at *
          have hbs := HX11.out.bt
          have kc := bytes_string hbs 94 Tryz.underlying94 (cap := yc)
          rw [HL3.out, show ((((bytesOf q.cells).set ma (x : Int)).set mb 46).set mb (tk : Int)) = (((bytesOf q.cells).set ma (x : Int)).set mb (if tk = 0 then 46 else (tk : Int))) by rw [if_neg HTK.out, List.set_set], HBK2.out] at kc
          have HF := Aside0.mk (HX11.out.fin (p := p) HA.out HBB.out HC.out HD.out)
          rw [HS.out, ← HCK.out, ← HFL.out] at HF
          obtain ⟨g0, g1, g2, g3, g4, g5, g6, g7, g8, gf, _, _, _, _, _, _, _⟩ := HX11.out.un.gm
          obtain ⟨_, u0, u1, u2, u3, u4, _, _, _, _⟩ := HX11.out.un
          simp only at u0 u1 u2 u3 u4
          clear HX11 hbs
          go_wp2_with (simp only [kc])
          go_ret
          exact ⟨_, rfl, HF.out⟩
  · have hq : q.side = 0 := by rw [HW.out.qs, hs]; rfl
    have HO : setF (putF (cutF (sqF q.cells 1) mb) ma) = setF (sqF p.cells 1) := by have h := HW.out.back_own; rw [hs] at h; exact h
    have HO2 : (tk = 0 → setF (sqF q.cells 0) = setF (sqF p.cells 0)) ∧ (tk ≠ 0 → setF (putF (sqF q.cells 0) mb) = setF (sqF p.cells 0)) := by have h := HW.out.back_oth; rw [hs, show ((1 : Int) - 1) = 0 from rfl] at h; exact h
    have HW1 := Aside0.mk (fun V => without_c (sqF q.cells 1) mb hb V)
    have HW2 := Aside0.mk (fun V => with_c (cutF (sqF q.cells 1) mb) ma ha V)
    have HW3 := Aside0.mk (fun V => with_c (sqF q.cells 0) mb hb V)
    rw [HO] at HW2
    have HO3 := Aside0.mk HO2
    have HQS := Aside0.mk hq
    have HS := Aside0.mk hs
    clear HO HO2 hq hs ha hb HW
    unfold setF at HW1 HW2 HW3 HO3
    generalize loB (putF (sqF q.cells 0) mb) = E3 at *
    generalize hiB (putF (sqF q.cells 0) mb) = F3 at *
    generalize loB (cutF (sqF q.cells 1) mb) = E1 at *
    generalize hiB (cutF (sqF q.cells 1) mb) = F1 at *
    generalize loB (sqF q.cells 0) = A0 at *
    generalize hiB (sqF q.cells 0) = B0 at *
    generalize loB (sqF q.cells 1) = C0 at *
    generalize hiB (sqF q.cells 1) = D0 at *
    generalize hA : loB (sqF p.cells 0) = A2 at HW2 HO3
    generalize hB : hiB (sqF p.cells 0) = B2 at HW2 HO3
    generalize hC : loB (sqF p.cells 1) = C2 at HW2 HO3
    generalize hD : hiB (sqF p.cells 1) = D2 at HW2 HO3
    have HA := Aside0.mk hA
    have HBB := Aside0.mk hB
    have HC := Aside0.mk hC
    have HD := Aside0.mk hD
    clear hA hB hC hD
    obtain ⟨g0, g1, g2, g3, g4, g5, g6, g7, g8, gf, _, _, _, _, _, _, _⟩ := HB2.out.un.gm
    obtain ⟨_, u0, u1, u2, u3, u4, _, _, _, _⟩ := HB2.out.un
    simp only at u0 u1 u2 u3 u4
    rw [HQS.out] at g2
    have gn1 : gb ≠ ub := by have := HB2.out.un.low; have := HB2.out.un.uge; omega
    have gn2 : ub ≠ gb := fun h => gn1 h.symm
    have HX5 := Aside0.mk HB2.out.drew
    clear HB2
    go_wp2_with fail
    refine wp_region_held_drew (S := (fun V => V.cell? ⟨ub, 0, none⟩ = some (.int .i64 (ma : Int)) ∧ V.cell? ⟨ub, 1, none⟩ = some (.int .i64 (mb : Int)))) (by kernel_rfl) ?_ (fun hHeld => ?_)
    · (try dsimp only)
      go_keep
    refine wpAnyH_take (i := 0) (v := ?_) rfl (by kernel_rfl) (by kernel_rfl) (by kernel_rfl) (fun _ _ _ h => h) (Or.inl ⟨by rfl, ?_⟩) (by assumption) ?_
    rotate_left
    · (intro w hSw; (try dsimp only at hSw); go_simp); (try with_reducible rfl)
    (try simp only [Act.put, List.setIfInBounds_toArray, List.set_cons_zero, List.set_cons_succ])
    refine wpAnyH_take (i := 1) (v := ?_) rfl (by kernel_rfl) (by kernel_rfl) (by kernel_rfl) (fun _ _ _ h => h) (Or.inl ⟨by rfl, ?_⟩) (by assumption) ?_
    rotate_left
    · (intro w hSw; (try dsimp only at hSw); go_simp); (try with_reducible rfl)
    (try simp only [Act.put, List.setIfInBounds_toArray, List.set_cons_zero, List.set_cons_succ])
    refine wpAnyH_take (i := 2) (v := ?_) rfl (by kernel_rfl) (by kernel_rfl) (by kernel_rfl) (fun _ _ _ h => h) (Or.inl ⟨by rfl, ?_⟩) (by assumption) ?_
    rotate_left
    · (intro w hSw; (try dsimp only at hSw); go_simp); (try with_reducible rfl)
    (try simp only [Act.put, List.setIfInBounds_toArray, List.set_cons_zero, List.set_cons_succ])
    refine wpAnyH_take (i := 3) (v := ?_) rfl (by kernel_rfl) (by kernel_rfl) (by kernel_rfl) (fun _ _ _ h => h) (Or.inl ⟨by rfl, ?_⟩) (by assumption) ?_
    rotate_left
    · (intro w hSw; (try dsimp only at hSw); go_simp); (try with_reducible rfl)
    (try simp only [Act.put, List.setIfInBounds_toArray, List.set_cons_zero, List.set_cons_succ])
    refine wpAnyH_take (i := 4) (v := ?_) rfl (by kernel_rfl) (by kernel_rfl) (by kernel_rfl) (fun _ _ _ h => h) (Or.inl ⟨by rfl, ?_⟩) (by assumption) ?_
    rotate_left
    · (intro w hSw; (try dsimp only at hSw); go_simp); (try with_reducible rfl)
    (try simp only [Act.put, List.setIfInBounds_toArray, List.set_cons_zero, List.set_cons_succ])
    refine wpAnyH_take (i := 5) (v := ?_) rfl (by kernel_rfl) (by kernel_rfl) (by kernel_rfl) (fun _ _ _ h => h) (Or.inl ⟨by rfl, ?_⟩) (by assumption) ?_
    rotate_left
    · (intro w hSw; (try dsimp only at hSw); go_simp); (try with_reducible rfl)
    (try simp only [Act.put, List.setIfInBounds_toArray, List.set_cons_zero, List.set_cons_succ])
    refine wpAnyH_take (i := 6) (v := ?_) rfl (by kernel_rfl) (by kernel_rfl) (by kernel_rfl) (fun _ _ _ h => h) (Or.inl ⟨by rfl, ?_⟩) (by assumption) ?_
    rotate_left
    · (intro w hSw; (try dsimp only at hSw); go_simp); (try with_reducible rfl)
    (try simp only [Act.put, List.setIfInBounds_toArray, List.set_cons_zero, List.set_cons_succ])
    refine wpAnyH_take (i := 8) (v := ?_) rfl (by kernel_rfl) (by kernel_rfl) (by kernel_rfl) (fun _ _ _ h => h) (Or.inl ⟨by rfl, ?_⟩) (by assumption) ?_
    rotate_left
    · (intro w hSw; (try dsimp only at hSw); go_simp); (try with_reducible rfl)
    (try simp only [Act.put, List.setIfInBounds_toArray, List.set_cons_zero, List.set_cons_succ])
    refine wpAnyH_take (i := 9) (v := ?_) rfl (by kernel_rfl) (by kernel_rfl) (by kernel_rfl) (fun _ _ _ h => h) (Or.inl ⟨by rfl, ?_⟩) (by assumption) ?_
    rotate_left
    · (intro w hSw; (try dsimp only at hSw); go_simp); (try with_reducible rfl)
    (try simp only [Act.put, List.setIfInBounds_toArray, List.set_cons_zero, List.set_cons_succ])
    refine wpAnyH_take (i := 10) (v := ?_) rfl (by kernel_rfl) (by kernel_rfl) (by kernel_rfl) (fun _ _ _ h => h) (Or.inl ⟨by rfl, ?_⟩) (by assumption) ?_
    rotate_left
    · (intro w hSw; (try dsimp only at hSw); go_simp); (try with_reducible rfl)
    (try simp only [Act.put, List.setIfInBounds_toArray, List.set_cons_zero, List.set_cons_succ])
    refine wpAnyH_take (i := 12) (v := ?_) rfl (by kernel_rfl) (by kernel_rfl) (by kernel_rfl) (fun _ _ _ h => h) (Or.inl ⟨by rfl, ?_⟩) (by assumption) ?_
    rotate_left
    · (intro w hSw; (try dsimp only at hSw); go_simp); (try with_reducible rfl)
    (try simp only [Act.put, List.setIfInBounds_toArray, List.set_cons_zero, List.set_cons_succ])
    refine wpAnyH_take (i := 13) (v := ?_) rfl (by kernel_rfl) (by kernel_rfl) (by kernel_rfl) (fun _ _ _ h => h) (Or.inl ⟨by rfl, ?_⟩) (by assumption) ?_
    rotate_left
    · (intro w hSw; (try dsimp only at hSw); go_simp); (try with_reducible rfl)
    (try simp only [Act.put, List.setIfInBounds_toArray, List.set_cons_zero, List.set_cons_succ])
    refine wpAnyH_take (i := 14) (v := ?_) rfl (by kernel_rfl) (by kernel_rfl) (by kernel_rfl) (fun _ _ _ h => h) (Or.inl ⟨by rfl, ?_⟩) (by assumption) ?_
    rotate_left
    · (intro w hSw; (try dsimp only at hSw); go_simp); (try with_reducible rfl)
    (try simp only [Act.put, List.setIfInBounds_toArray, List.set_cons_zero, List.set_cons_succ])
    refine wpAnyH_take (i := 16) (v := ?_) rfl (by kernel_rfl) (by kernel_rfl) (by kernel_rfl) (fun _ _ _ h => h) (Or.inl ⟨by rfl, ?_⟩) (by assumption) ?_
    rotate_left
    · (intro w hSw; (try dsimp only at hSw); go_simp); (try with_reducible rfl)
    (try simp only [Act.put, List.setIfInBounds_toArray, List.set_cons_zero, List.set_cons_succ])
    refine wpAnyH_take (i := 17) (v := ?_) rfl (by kernel_rfl) (by kernel_rfl) (by kernel_rfl) (fun _ _ _ h => h) (Or.inl ⟨by rfl, ?_⟩) (by assumption) ?_
    rotate_left
    · (intro w hSw; (try dsimp only at hSw); go_simp); (try with_reducible rfl)
    (try simp only [Act.put, List.setIfInBounds_toArray, List.set_cons_zero, List.set_cons_succ])
    refine wpAnyH_ready (rs := [7]) (by kernel_rfl) (by simp) ?_
    refine AllReadyH.cons rfl (fun K hK => ?_) AllReadyH.nil
    go_simp
    refine hK.out _ _ ?_ (fun hHeld2 => ?_)
    · (try dsimp only)
      go_keep
    clear hK K
    (try simp only [Act.put, List.setIfInBounds_toArray, List.set_cons_zero, List.set_cons_succ])
    refine wpAnyH_ready (rs := [11]) (by kernel_rfl) (by simp) ?_
    refine AllReadyH.cons rfl (fun K hK => ?_) AllReadyH.nil
    (go_simp; go_at_call 65; (with_reducible refine (HW1.out _).mono ?_); rintro e w6 ⟨rfl, hb⟩; have HX6 := Aside0.mk (HX5.out.below hb); clear HX5 hb g0 g1 g2 g3 g4 g5 g6 g7 g8 gf u0 u1 u2 u3 u4; obtain ⟨g0, g1, g2, g3, g4, g5, g6, g7, g8, gf, _, _, _, _, _, _, _⟩ := HX6.out.un.gm; obtain ⟨_, u0, u1, u2, u3, u4, _, _, _, _⟩ := HX6.out.un; simp only at u0 u1 u2 u3 u4; (try go_wp2_with fail))
    refine hK.out _ _ ?_ (fun hHeld3 => ?_)
    · (try dsimp only)
      go_keep
    clear hK K
    (try simp only [Act.put, List.setIfInBounds_toArray, List.set_cons_zero, List.set_cons_succ])
    refine wpAnyH_ready (rs := [15]) (by kernel_rfl) (by simp) ?_
    refine AllReadyH.cons rfl (fun K hK => ?_) AllReadyH.nil
    (go_simp; go_at_call 66; (with_reducible refine (HW2.out _).mono ?_); rintro e w7 ⟨rfl, hb⟩; have HX7 := Aside0.mk (HX6.out.below hb); clear HX6 hb g0 g1 g2 g3 g4 g5 g6 g7 g8 gf u0 u1 u2 u3 u4; obtain ⟨g0, g1, g2, g3, g4, g5, g6, g7, g8, gf, _, _, _, _, _, _, _⟩ := HX7.out.un.gm; obtain ⟨_, u0, u1, u2, u3, u4, _, _, _, _⟩ := HX7.out.un; simp only at u0 u1 u2 u3 u4; (try go_wp2_with fail))
    refine hK.out _ _ ?_ (fun hHeld4 => ?_)
    · (try dsimp only)
      go_keep
    clear hK K
    (try simp only [Act.put, List.setIfInBounds_toArray, List.set_cons_zero, List.set_cons_succ])
    refine wpAnyH_take (i := 18) (v := ?_) rfl (by kernel_rfl) (by kernel_rfl) (by kernel_rfl) (fun _ _ _ h => h) (Or.inl ⟨by rfl, ?_⟩) (by assumption) ?_
    rotate_left
    · (intro w hSw; (try dsimp only at hSw); go_simp); (try with_reducible rfl)
    (try simp only [Act.put, List.setIfInBounds_toArray, List.set_cons_zero, List.set_cons_succ])
    refine wpAnyH_ready (rs := [19]) (by kernel_rfl) (by simp) ?_
    refine AllReadyH.cons rfl (fun K hK => ?_) AllReadyH.nil
    go_simp
    refine hK.out _ _ ?_ (fun hHeld5 => ?_)
    · (try dsimp only)
      go_keep
    clear hK K
    (try simp only [Act.put, List.setIfInBounds_toArray, List.set_cons_zero, List.set_cons_succ])
    refine wpAnyH_done (by kernel_rfl) ?_ _
    all_goals
      have HX8 := Aside0.mk (HX7.out.setBlack C2 D2)
      clear HX7 g0 g1 g2 g3 g4 g5 g6 g7 g8 gf u0 u1 u2 u3 u4
      generalize (w7.setCell ⟨gb, 7, none⟩ (.int .u64 (C2 : Int))).setCell ⟨gb, 8, none⟩ (.int .u64 (D2 : Int)) = W11 at *
      by_cases htk : tk = 0
      case pos =>
        obtain ⟨rfl, rfl⟩ := setV_inj (HO3.out.1 htk)
        have hbs := HX8.out.bt
        have kc := bytes_string hbs 94 Tryz.underlying94 (cap := yc)
        rw [HL2.out, show (((bytesOf q.cells).set ma (x : Int)).set mb 46) = (((bytesOf q.cells).set ma (x : Int)).set mb (if tk = 0 then 46 else (tk : Int))) by rw [if_pos htk], HBK2.out] at kc
        have HF := Aside0.mk (HX8.out.fin (p := p) HA.out HBB.out HC.out HD.out)
        rw [HS.out, ← HCK.out, ← HFL.out] at HF
        obtain ⟨g0, g1, g2, g3, g4, g5, g6, g7, g8, gf, _, _, _, _, _, _, _⟩ := HX8.out.un.gm
        obtain ⟨_, u0, u1, u2, u3, u4, _, _, _, _⟩ := HX8.out.un
        simp only at u0 u1 u2 u3 u4
        have hb0 : ((tk : Int) != 0) = false := by simp [htk]
        have hb1 : ((tk : Int) == 0) = true := by simp [htk]
        clear HX8 hbs
        go_wp2_with (simp only [kc])
        go_ret
        exact ⟨_, rfl, HF.out⟩
      case neg =>
        rw [HO3.out.2 htk] at HW3
        obtain ⟨ky, fy⟩ := HX8.out.bt mb (by rw [HL2.out, HSZ.out]; omega)
        generalize (((bytesOf q.cells).set ma (x : Int)).set mb 46).getD mb 0 = xq at *
        obtain ⟨g0, g1, g2, g3, g4, g5, g6, g7, g8, gf, _, _, _, _, _, _, _⟩ := HX8.out.un.gm
        obtain ⟨_, u0, u1, u2, u3, u4, _, _, _, _⟩ := HX8.out.un
        simp only at u0 u1 u2 u3 u4
        have hb0 : ((tk : Int) != 0) = true := by simp [htk]
        have hb1 : ((tk : Int) == 0) = false := by simp [htk]
        have HTK := Aside0.mk htk
        clear htk
        go_wp2_with fail
        have HX9 := Aside0.mk ((HX8.out.put mb (tk : Int)).drew)
        have HX9' := Aside0.mk (HX8.out.put mb (tk : Int))
        clear HX8 g0 g1 g2 g3 g4 g5 g6 g7 g8 gf u0 u1 u2 u3 u4 ky fy
        generalize W11.setCell ⟨yb, mb, none⟩ (.int .u8 (tk : Int)) = W12 at *
        obtain ⟨g0, g1, g2, g3, g4, g5, g6, g7, g8, gf, _, _, _, _, _, _, _⟩ := HX9'.out.un.gm
        obtain ⟨_, u0, u1, u2, u3, u4, _, _, _, _⟩ := HX9'.out.un
        simp only at u0 u1 u2 u3 u4
        clear HX9'
        refine wp_region_held_drew (S := (fun V => V.cell? ⟨ub, 0, none⟩ = some (.int .i64 (ma : Int)) ∧ V.cell? ⟨ub, 1, none⟩ = some (.int .i64 (mb : Int)))) (by kernel_rfl) ?_ (fun hHeld => ?_)
        · (try dsimp only)
          go_keep
        refine wpAnyH_take (i := 0) (v := ?_) rfl (by kernel_rfl) (by kernel_rfl) (by kernel_rfl) (fun _ _ _ h => h) (Or.inl ⟨by rfl, ?_⟩) (by assumption) ?_
        rotate_left
        · (intro w hSw; (try dsimp only at hSw); go_simp); (try with_reducible rfl)
        (try simp only [Act.put, List.setIfInBounds_toArray, List.set_cons_zero, List.set_cons_succ])
        refine wpAnyH_take (i := 1) (v := ?_) rfl (by kernel_rfl) (by kernel_rfl) (by kernel_rfl) (fun _ _ _ h => h) (Or.inl ⟨by rfl, ?_⟩) (by assumption) ?_
        rotate_left
        · (intro w hSw; (try dsimp only at hSw); go_simp); (try with_reducible rfl)
        (try simp only [Act.put, List.setIfInBounds_toArray, List.set_cons_zero, List.set_cons_succ])
        refine wpAnyH_take (i := 2) (v := ?_) rfl (by kernel_rfl) (by kernel_rfl) (by kernel_rfl) (fun _ _ _ h => h) (Or.inl ⟨by rfl, ?_⟩) (by assumption) ?_
        rotate_left
        · (intro w hSw; (try dsimp only at hSw); go_simp); (try with_reducible rfl)
        (try simp only [Act.put, List.setIfInBounds_toArray, List.set_cons_zero, List.set_cons_succ])
        refine wpAnyH_take (i := 3) (v := ?_) rfl (by kernel_rfl) (by kernel_rfl) (by kernel_rfl) (fun _ _ _ h => h) (Or.inl ⟨by rfl, ?_⟩) (by assumption) ?_
        rotate_left
        · (intro w hSw; (try dsimp only at hSw); go_simp); (try with_reducible rfl)
        (try simp only [Act.put, List.setIfInBounds_toArray, List.set_cons_zero, List.set_cons_succ])
        refine wpAnyH_take (i := 4) (v := ?_) rfl (by kernel_rfl) (by kernel_rfl) (by kernel_rfl) (fun _ _ _ h => h) (Or.inl ⟨by rfl, ?_⟩) (by assumption) ?_
        rotate_left
        · (intro w hSw; (try dsimp only at hSw); go_simp); (try with_reducible rfl)
        (try simp only [Act.put, List.setIfInBounds_toArray, List.set_cons_zero, List.set_cons_succ])
        refine wpAnyH_take (i := 5) (v := ?_) rfl (by kernel_rfl) (by kernel_rfl) (by kernel_rfl) (fun _ _ _ h => h) (Or.inl ⟨by rfl, ?_⟩) (by assumption) ?_
        rotate_left
        · (intro w hSw; (try dsimp only at hSw); go_simp); (try with_reducible rfl)
        (try simp only [Act.put, List.setIfInBounds_toArray, List.set_cons_zero, List.set_cons_succ])
        refine wpAnyH_take (i := 6) (v := ?_) rfl (by kernel_rfl) (by kernel_rfl) (by kernel_rfl) (fun _ _ _ h => h) (Or.inl ⟨by rfl, ?_⟩) (by assumption) ?_
        rotate_left
        · (intro w hSw; (try dsimp only at hSw); go_simp); (try with_reducible rfl)
        (try simp only [Act.put, List.setIfInBounds_toArray, List.set_cons_zero, List.set_cons_succ])
        refine wpAnyH_take (i := 7) (v := ?_) rfl (by kernel_rfl) (by kernel_rfl) (by kernel_rfl) (fun _ _ _ h => h) (Or.inl ⟨by rfl, ?_⟩) (by assumption) ?_
        rotate_left
        · (intro w hSw; (try dsimp only at hSw); go_simp); (try with_reducible rfl)
        (try simp only [Act.put, List.setIfInBounds_toArray, List.set_cons_zero, List.set_cons_succ])
        refine wpAnyH_take (i := 8) (v := ?_) rfl (by kernel_rfl) (by kernel_rfl) (by kernel_rfl) (fun _ _ _ h => h) (Or.inl ⟨by rfl, ?_⟩) (by assumption) ?_
        rotate_left
        · (intro w hSw; (try dsimp only at hSw); go_simp); (try with_reducible rfl)
        (try simp only [Act.put, List.setIfInBounds_toArray, List.set_cons_zero, List.set_cons_succ])
        refine wpAnyH_take (i := 10) (v := ?_) rfl (by kernel_rfl) (by kernel_rfl) (by kernel_rfl) (fun _ _ _ h => h) (Or.inl ⟨by rfl, ?_⟩) (by assumption) ?_
        rotate_left
        · (intro w hSw; (try dsimp only at hSw); go_simp); (try with_reducible rfl)
        (try simp only [Act.put, List.setIfInBounds_toArray, List.set_cons_zero, List.set_cons_succ])
        refine wpAnyH_take (i := 11) (v := ?_) rfl (by kernel_rfl) (by kernel_rfl) (by kernel_rfl) (fun _ _ _ h => h) (Or.inl ⟨by rfl, ?_⟩) (by assumption) ?_
        rotate_left
        · (intro w hSw; (try dsimp only at hSw); go_simp); (try with_reducible rfl)
        (try simp only [Act.put, List.setIfInBounds_toArray, List.set_cons_zero, List.set_cons_succ])
        refine wpAnyH_take (i := 12) (v := ?_) rfl (by kernel_rfl) (by kernel_rfl) (by kernel_rfl) (fun _ _ _ h => h) (Or.inl ⟨by rfl, ?_⟩) (by assumption) ?_
        rotate_left
        · (intro w hSw; (try dsimp only at hSw); go_simp); (try with_reducible rfl)
        (try simp only [Act.put, List.setIfInBounds_toArray, List.set_cons_zero, List.set_cons_succ])
        refine wpAnyH_take (i := 14) (v := ?_) rfl (by kernel_rfl) (by kernel_rfl) (by kernel_rfl) (fun _ _ _ h => h) (Or.inl ⟨by rfl, ?_⟩) (by assumption) ?_
        rotate_left
        · (intro w hSw; (try dsimp only at hSw); go_simp); (try with_reducible rfl)
        (try simp only [Act.put, List.setIfInBounds_toArray, List.set_cons_zero, List.set_cons_succ])
        refine wpAnyH_take (i := 15) (v := ?_) rfl (by kernel_rfl) (by kernel_rfl) (by kernel_rfl) (fun _ _ _ h => h) (Or.inl ⟨by rfl, ?_⟩) (by assumption) ?_
        rotate_left
        · (intro w hSw; (try dsimp only at hSw); go_simp); (try with_reducible rfl)
        (try simp only [Act.put, List.setIfInBounds_toArray, List.set_cons_zero, List.set_cons_succ])
        refine wpAnyH_ready (rs := [9]) (by kernel_rfl) (by simp) ?_
        refine AllReadyH.cons rfl (fun K hK => ?_) AllReadyH.nil
        go_simp
        refine hK.out _ _ ?_ (fun hHeld2 => ?_)
        · (try dsimp only)
          go_keep
        clear hK K
        (try simp only [Act.put, List.setIfInBounds_toArray, List.set_cons_zero, List.set_cons_succ])
        refine wpAnyH_ready (rs := [13]) (by kernel_rfl) (by simp) ?_
        refine AllReadyH.cons rfl (fun K hK => ?_) AllReadyH.nil
        (go_simp; go_at_call 66; (with_reducible refine (HW3.out _).mono ?_); rintro e w10 ⟨rfl, hb⟩; have HX10 := Aside0.mk (HX9.out.below hb); clear HX9 hb g0 g1 g2 g3 g4 g5 g6 g7 g8 gf u0 u1 u2 u3 u4; obtain ⟨g0, g1, g2, g3, g4, g5, g6, g7, g8, gf, _, _, _, _, _, _, _⟩ := HX10.out.un.gm; obtain ⟨_, u0, u1, u2, u3, u4, _, _, _, _⟩ := HX10.out.un; simp only at u0 u1 u2 u3 u4; (try go_wp2_with fail))
        refine hK.out _ _ ?_ (fun hHeld3 => ?_)
        · (try dsimp only)
          go_keep
        clear hK K
        (try simp only [Act.put, List.setIfInBounds_toArray, List.set_cons_zero, List.set_cons_succ])
        refine wpAnyH_take (i := 16) (v := ?_) rfl (by kernel_rfl) (by kernel_rfl) (by kernel_rfl) (fun _ _ _ h => h) (Or.inl ⟨by rfl, ?_⟩) (by assumption) ?_
        rotate_left
        · (intro w hSw; (try dsimp only at hSw); go_simp); (try with_reducible rfl)
        (try simp only [Act.put, List.setIfInBounds_toArray, List.set_cons_zero, List.set_cons_succ])
        refine wpAnyH_ready (rs := [17]) (by kernel_rfl) (by simp) ?_
        refine AllReadyH.cons rfl (fun K hK => ?_) AllReadyH.nil
        go_simp
        refine hK.out _ _ ?_ (fun hHeld4 => ?_)
        · (try dsimp only)
          go_keep
        clear hK K
        (try simp only [Act.put, List.setIfInBounds_toArray, List.set_cons_zero, List.set_cons_succ])
        refine wpAnyH_done (by kernel_rfl) ?_ _
        all_goals
          have HX11 := Aside0.mk (HX10.out.setRed A2 B2)
          clear HX10 g0 g1 g2 g3 g4 g5 g6 g7 g8 gf u0 u1 u2 u3 u4
          generalize (w10.setCell ⟨gb, 5, none⟩ (.int .u64 (A2 : Int))).setCell ⟨gb, 6, none⟩ (.int .u64 (B2 : Int)) = W13 at *
          have hbs := HX11.out.bt
          have kc := bytes_string hbs 94 Tryz.underlying94 (cap := yc)
          rw [HL3.out, show ((((bytesOf q.cells).set ma (x : Int)).set mb 46).set mb (tk : Int)) = (((bytesOf q.cells).set ma (x : Int)).set mb (if tk = 0 then 46 else (tk : Int))) by rw [if_neg HTK.out, List.set_set], HBK2.out] at kc
          have HF := Aside0.mk (HX11.out.fin (p := p) HA.out HBB.out HC.out HD.out)
          rw [HS.out, ← HCK.out, ← HFL.out] at HF
          obtain ⟨g0, g1, g2, g3, g4, g5, g6, g7, g8, gf, _, _, _, _, _, _, _⟩ := HX11.out.un.gm
          obtain ⟨_, u0, u1, u2, u3, u4, _, _, _, _⟩ := HX11.out.un
          simp only at u0 u1 u2 u3 u4
          clear HX11 hbs
          go_wp2_with (simp only [kc])
          go_ret
          exact ⟨_, rfl, HF.out⟩
end Go.Proofs.YtgmlojocafepiaaGreatDoor.K

/- perft: behind, with its deferred call. -/
namespace Go.Proofs.YtgmlojocafepiaaGreatDoor.K
open Go.RowKit Go.Lib Go.Proofs.YtgmlojocafepiaaGreatDoorW.PrintWords Go.Proofs.YtgmlojocafepiaaGreatDoor.Sp
set_option linter.unusedVariables false
set_option linter.unusedSimpArgs false
set_option maxRecDepth 100000 in
set_option maxHeartbeats 4000000 in
theorem behind_c {S : Nat → Prop} {gb pb : Nat} {sv : Value} {now : Pos} {us : List Und} {W : World} {m : Mv} (h : GmX W S gb pb sv now us) (hT : TabW W) (hS : InW S W) (hm : m ∈ legalL now) (hl : us.length < 900) : Calls Tryz.prog 113 #[.pointer (some ⟨gb, 0, none⟩), mviV (mviOf m), .int .i64 0] W fun e w' => e = .returned (.int .i64 1) ∧ ∃ S' sv', E9 W S w' S' gb pb sv' now us := by
  obtain ⟨q, c, hmk, hst, hwq, hok, hqc, hqs⟩ := legal_step (us := us) hm (by omega)
  have hw := (legal_mem.1 hm).1
  have hb0 := below_alloc (Below.refl W.heap.size W) (.cells #[.int .i64 (m.1 : Int), .int .i64 (m.2 : Int)] 32)
  have H1 := Aside0.mk ((E9.start h).below hb0)
  have HMK := Aside0.mk (fun (W1 : World) (hb : Below W.heap.size W W1) => gmake_c S gb pb sv now us (mviOf m) W1 (h.below hb) (hT.below hb) hw (by omega))
  unfold MadeIs at HMK
  rw [hst] at HMK
  have HT := Aside0.mk (fun (W' : World) (S2 : Nat → Prop) (sv2 : Value) (now2 : Pos) (us2 : List Und) (he : E9 W S W' S2 gb pb sv2 now2 us2) => hT.e9 he (fun k hk => (hS k hk).1))
  have HTS := Aside0.mk (fun (W' : World) (S2 : Nat → Prop) (sv2 : Value) (now2 : Pos) (us2 : List Und) (he : E9 W S W' S2 gb pb sv2 now2 us2) => hS.e9 hT he)
  have HPC := Aside0.mk (fun (W' : World) (S2 : Nat → Prop) (sv2 : Value) (he : E9 W S W' S2 gb pb sv2 q (us ++ [⟨m, c, now.clock, now.full⟩])) => pcount_c 0 (by omega) he.gm (hT.e9 he (fun k hk => (hS k hk).1)) (hS.e9 hT he) hwq (by simp; omega))
  have HOK := Aside0.mk hok
  have HUL := Aside0.mk hl
  clear h hT hS hm hmk hst hwq hok hqc hqs hw hb0 hl
  obtain ⟨ma, mb⟩ := m
  simp only at H1
  go_enter_defers Tryz.func113, Tryz.ntmps113
  go_wp2_with fail
  refine (HMK.out _ (below_alloc (Below.refl _ _) _)).mono ?_
  rintro e w4 ⟨sv4, rfl, hg, hk⟩
  have H4 := Aside0.mk (H1.out.trans (E9.made hk hg))
  clear hg hk H1 HMK
  go_wp2_with fail
  refine (HPC.out _ _ _ H4.out).mono ?_
  rintro e w5 ⟨S5, sv5, rfl, he⟩
  have H5 := Aside0.mk (H4.out.trans he)
  have HL1 := Aside0.mk (show ((linesR q.cells q.side 0 : Nat) : Int) = 1 from rfl)
  rw [HL1.out]
  clear he H4 HPC HL1
  go_wp2_with fail
  refine leaves_cons (f := 23) (args := #[.pointer (some ⟨gb, 0, none⟩)]) (by simp) (by simp [go_sem]) ?_
  refine (gunmake_d .returning S5 gb pb sv5 now q us ⟨(ma, mb), c, now.clock, now.full⟩ w5 H5.out.gm HOK.out rfl rfl (by have := HUL.out; omega)).mono ?_
  rintro e u' w6 ⟨rfl, sv6, rfl, hg, hk⟩
  exact ⟨_, results_tmp rfl _ _ _, rfl, S5, sv6, H5.out.trans (E9.same hk hg)⟩
end Go.Proofs.YtgmlojocafepiaaGreatDoor.K

/- perft: Splits, at depth one. -/
namespace Go.Proofs.YtgmlojocafepiaaGreatDoor.K
open Go.RowKit Go.Lib Go.Proofs.YtgmlojocafepiaaGreatDoorW.PrintWords Go.Proofs.YtgmlojocafepiaaGreatDoor.Sp
set_option linter.unusedVariables false
set_option linter.unusedSimpArgs false
def splC (m : Mv) : List Value := [.int .i64 (m.1 : Int), .int .i64 (m.2 : Int), .int .i64 1]
def flatS (l : List Mv) : List Value := l.flatMap splC
theorem flatS_len (l : List Mv) : (flatS l).length = l.length * 3 := by
  induction l with
  | nil => rfl
  | cons x r ih => simp only [flatS, List.flatMap_cons, List.length_append, List.length_cons] at *; simp [splC, ih]; omega
theorem flatS_append (l : List Mv) (x : Mv) : flatS (l ++ [x]) = flatS l ++ splC x := by simp [flatS]
theorem info_spl : (Tryz.prog.info? 102).map (fun i => (i.zero, i.size, i.bytes)) = some (some (.agg #[.int .i64 0, .int .i64 0, .int .i64 0]), 3, 24) := by kernel_rfl
/-- The first one's count is read. -/
theorem spl_first {W : World} {B n cap : Nat} {A : Option Addr} {l : List Mv} (h : W.ownsRow B 102 3 (.slice A n cap) n (flatS l)) (hn : 0 < n) : ∃ g, A = some ⟨g, 0, none⟩ ∧ W.cell? ⟨g, 2, none⟩ = some (.int .i64 1) := by
  obtain ⟨g, cap', hv, hlt⟩ := row_at h hn
  simp only [Value.slice.injEq, true_and] at hv
  obtain ⟨rfl, rfl⟩ := hv
  refine ⟨g, rfl, ?_⟩
  have hl : l ≠ [] := by
    intro he
    have := h.1
    rw [he] at this
    simp [flatS] at this
    omega
  obtain ⟨x, r, rfl⟩ := List.exists_cons_of_ne_nil hl
  have hc := h.cells (g := g) rfl 2 (.int .i64 1) (by simp [flatS, splC])
  rwa [add_plain] at hc
/-- A split is appended, in a region. -/
theorem step_appS {ops : Array Oper} {o : Oper} {a : Act} {K : Act → World → Prop} {Q : Exit → Act → World → Prop} {E : Prop} (W : World) (hgd : o.guard = none) (s x : Operand)
    (ho : o.op = .call { callee := .builtin .append, args := #[s, x], argTypes := #[98, 98] }) (B : Nat) (hB : B ≤ W.heap.size) (v : Value) (ms : List Mv) (m : Mv) (hs : a.eval s = v) (hx : a.eval x = .slice (some ⟨W.heap.size, 0, none⟩) 1 1)
    (hown : W.ownsRow B 102 3 v ms.length (flatS ms)) (hlen : ms.length ≤ 8100)
    (h : ∀ b cap w', w'.ownsRow B 102 3 (.slice (some ⟨b, 0, none⟩) (ms ++ [m]).length cap) (ms ++ [m]).length (flatS (ms ++ [m])) → (W.alloc (.cells #[.int .i64 (m.1 : Int), .int .i64 (m.2 : Int), .int .i64 1] 102)).grownBy w' v.ownBlock → (v.ownBlock = some b ∨ b = W.heap.size + 1) → K (a.put o.dst (.slice (some ⟨b, 0, none⟩) (ms.length + 1) cap)) w') :
    if Region.wanted o (yielded ops a.tmps) = true then Oper.wp Tryz.prog o a (W.alloc (.cells #[.int .i64 (m.1 : Int), .int .i64 (m.2 : Int), .int .i64 1] 102)) K Q else E := by
  obtain ⟨i0, hi0, hx0⟩ := Option.map_eq_some_iff.1 info_spl
  simp only [Prod.mk.injEq] at hx0
  have hb := below_alloc (Below.refl W.heap.size W) (.cells #[.int .i64 (m.1 : Int), .int .i64 (m.2 : Int), .int .i64 1] 102)
  have hown2 := (Ken.of_below hb (fun _ => False)).row hown (fun _ _ hk => hk)
  refine step_append_lies _ hgd s x _ ho B 102 i0 _ 3 24 Tryz.underlying98 hi0 hx0.1 hx0.2.1 hx0.2.2 rfl (by omega) v ms.length (flatS ms) hs hown2 ⟨W.heap.size, 0, none⟩ 1 1 (splC m) hx rfl
    (World.news_of_block (cs := #[.int .i64 (m.1 : Int), .int .i64 (m.2 : Int), .int .i64 1]) (t := 102) (fr := (0, 0)) (by exact heap_alloc_new _ _)) (by simp [Value.oneCell', splC]) (by omega) (by unfold maxLen; omega) (by omega) (Nat.le_trans hB hb.size) _ rfl ?_
  intro b cap w' h1 h2 h3 _
  refine h b cap w' ?_ h2 (h3.imp id (fun he => by rw [he]; show (W.alloc _).heap.size = _; simp))
  rw [flatS_append, List.length_append]
  exact h1
theorem cell_grown {W W2 : World} {o : Obj} {v x : Value} {b i : Nat} (hg : (W.alloc o).grownBy W2 v.ownBlock) (hn : ∀ g, v.ownBlock = some g → g < b) (hc : W.cell? ⟨b, i, none⟩ = some x) : W2.cell? ⟨b, i, none⟩ = some x := by
  have hk : Ken (fun k => v.ownBlock = some k) (W.alloc o) W2 := (Ken.refl _ _).grown hg (fun k hk => .inl hk)
  exact hk.cell (below_cell (below_alloc (Below.refl W.heap.size W) o) _ _ _ hc) (fun h => by have := hn b h; omega)
/-- What Splits' loop keeps. -/
structure Sp11 (W0 : World) (S0 : Nat → Prop) (W : World) (S : Nat → Prop) (gb pb : Nat) (sv : Value) (now : Pos) (B : Nat) (A : Option Addr) (n cp : Nat) (l : List Mv) (B2 : Nat) (v : Value) (k : List Mv) : Prop where
  e : E9 W0 S0 W S gb pb sv now []
  r : R9 W S B (.slice A n cp) l
  rl : ∀ a, A = some a → a.block < B2
  own : W.ownsRow B2 102 3 v k.length (flatS k)
  vs : ∀ g, v.ownBlock = some g → ¬ S g
  b2 : B2 ≤ W.heap.size
  b0 : W0.heap.size ≤ B2
section
variable {W0 W W' W2 : World} {S0 S S2 : Nat → Prop} {gb pb B n cp B2 : Nat} {sv sv2 v : Value} {now now2 : Pos} {A : Option Addr} {l k : List Mv}
theorem Sp11.below (h : Sp11 W0 S0 W S gb pb sv now B A n cp l B2 v k) (hb : Below W.heap.size W W') : Sp11 W0 S0 W' S gb pb sv now B A n cp l B2 v k :=
  ⟨h.e.below hb, h.r.below hb, h.rl, (Ken.of_below hb (fun _ => False)).row h.own (fun _ _ hk => hk), h.vs, Nat.le_trans h.b2 hb.size, h.b0⟩
theorem Sp11.drew (h : Sp11 W0 S0 W S gb pb sv now B A n cp l B2 v k) : Sp11 W0 S0 W.drew S gb pb sv now B A n cp l B2 v k := h.below (pw_below_drewN (Below.refl _ _) 1)
theorem Sp11.go (h : Sp11 W0 S0 W S gb pb sv now B A n cp l B2 v k) (he : E9 W S W2 S2 gb pb sv2 now []) : Sp11 W0 S0 W2 S2 gb pb sv2 now B A n cp l B2 v k :=
  ⟨h.e.trans he, h.r.e9 he, h.rl, he.ken.row h.own h.vs, fun g hg => he.out (own_lt h.own g hg) (h.vs g hg), Nat.le_trans h.b2 he.ken.size, h.b0⟩
theorem Sp11.grown (h : Sp11 W0 S0 W S gb pb sv now B A n cp l B2 v k) (hS : InW S W) (o : Obj) {b cap : Nat} {k2 : List Mv} (hg : (W.alloc o).grownBy W2 v.ownBlock) (ho : W2.ownsRow B2 102 3 (.slice (some ⟨b, 0, none⟩) k2.length cap) k2.length (flatS k2)) (hat : v.ownBlock = some b ∨ b = W.heap.size + 1) :
    Sp11 W0 S0 W2 S gb pb sv now B A n cp l B2 (.slice (some ⟨b, 0, none⟩) k2.length cap) k2 := by
  have h1 := h.below (below_alloc (Below.refl _ W) o)
  have hk : Ken (fun k => v.ownBlock = some k) (W.alloc o) W2 := (Ken.refl _ _).grown hg (fun k hk => .inl hk)
  have hge : ∀ g, v.ownBlock = some g → B2 ≤ g := by
    intro g hgv
    obtain ⟨_, ⟨h2, _⟩ | ⟨g', cap', cur, hv, hb, hh, _⟩⟩ := h.own
    · rw [h2] at hgv; simp [Value.ownBlock] at hgv
    · rw [hv] at hgv
      obtain rfl : g' = g := by simpa [Value.ownBlock] using hgv
      exact hb
  have hz := hk.size
  refine ⟨⟨h1.e.gm.ken hk (fun i hi h2 => h.vs i h2 hi), h1.e.ken.grown hg (fun k hk => .inr (Nat.le_trans h.b0 (hge k hk))), fun i hi => (h1.e.up i hi).imp id (fun h3 => ⟨h3.1, Nat.lt_of_lt_of_le h3.2 hz⟩)⟩, ?_, h.rl, ho, ?_, Nat.le_trans h1.b2 hz, h.b0⟩
  · obtain ⟨A', cap', hv, hx⟩ := h1.r.row.out
    refine ⟨⟨A', cap', hv, ?_⟩, fun g hgv => ⟨(h1.r.n g hgv).1, Nat.lt_of_lt_of_le (h1.r.n g hgv).2 hz⟩⟩
    rcases hx with hx | ⟨g, hA, hB, hlt, hx⟩
    · exact .inl hx
    · simp only [Value.slice.injEq] at hv
      have hgl : g < B2 := h.rl ⟨g, 0, none⟩ (by rw [hv.1, hA])
      have hn : ¬ v.ownBlock = some g := fun h2 => by have := hge g h2; omega
      exact .inr ⟨g, hA, hB, Nat.lt_of_lt_of_le hlt hz, fun i hi => ⟨hk.cell (hx i hi).1 hn, hk.cell (hx i hi).2 hn⟩⟩
  · intro g hgv
    obtain rfl : b = g := by simpa [Value.ownBlock] using hgv
    rcases hat with h2 | h2
    · exact h.vs b h2
    · exact fun hh => by have := (hS b hh).2; omega
end
end Go.Proofs.YtgmlojocafepiaaGreatDoor.K

/- perft: Splits, the walk at depth one. -/
namespace Go.Proofs.YtgmlojocafepiaaGreatDoor.K
open Go.RowKit Go.Lib Go.Proofs.YtgmlojocafepiaaGreatDoorW.PrintWords Go.Proofs.YtgmlojocafepiaaGreatDoor.Sp
set_option linter.unusedVariables false
set_option linter.unusedSimpArgs false
set_option maxRecDepth 100000 in
set_option maxHeartbeats 4000000 in
theorem psplits_no (p : Pos) (d : Int) (hd : pbegS p d 1 ≠ 0) (W : World) (hT : TabW W) : Calls Tryz.prog 74 #[posV p, .int .i64 d] W fun e w' => e = .returned (.tuple #[.slice none 0 0, .int .i64 (pbegS p d 1)]) ∧ Below W.heap.size W w' := by
  have hu := Tryz.underlying23
  have HB0 := Aside0.mk (BoxP.new W p)
  have HL0 := Aside0.mk (below_alloc (Below.refl W.heap.size W) (.cells #[.string p.cells, .int .i64 p.side, .int .i64 p.clock, .int .i64 p.full] 23))
  have HT := Aside0.mk (fun (W' : World) (hb : Below W.heap.size W W') => hT.below hb)
  have HBG := Aside0.mk (fun (W : World) (hT : TabW W) => pbegin_c p d 1 W hT)
  unfold BeginIs at HBG
  have HB2 : Aside0 (∀ (W : World), TabW W → Calls Tryz.prog 75 #[posV p, .int .i64 d, .int .i64 1] W fun e w' => e = .returned (.tuple #[.pointer none, .int .i64 (pbegS p d 1)]) ∧ Below W.heap.size W w') := ⟨fun W hT => (HBG.out W hT).mono (fun e w' h => by rwa [if_pos hd] at h)⟩
  generalize pbegS p d 1 = x at *
  have hn : (x != 0) = true := by simpa using hd
  clear hd HBG hT
  go_enter Tryz.func74, Tryz.ntmps74
  go_upto_region 1 with fail
  generalize W.alloc (.cells #[.string p.cells, .int .i64 p.side, .int .i64 p.clock, .int .i64 p.full] 23) = W1 at *
  obtain ⟨c0, c1, c2, c3⟩ := HB0.out
  go_wp2_with fail
  refine (HB2.out _ (HT.out _ HL0.out)).mono ?_
  rintro e w1 ⟨rfl, hb⟩
  have HB1 := Aside0.mk (below_go HL0.out hb)
  clear hb
  go_wp2_with fail
  refine bodyPost_ret (by simp [results, Tryz.results74, go_sem]; try rfl) rfl ?_
  exact ⟨rfl, HB1.out⟩
set_option maxRecDepth 100000 in
set_option maxHeartbeats 8000000 in
theorem psplits_c (p : Pos) (hw : wellS p = 0) (W : World) (hT : TabW W) : Calls Tryz.prog 74 #[posV p, .int .i64 1] W fun e w' => ∃ v B, e = .returned (.tuple #[v, .int .i64 0]) ∧ w'.ownsRow B 102 3 v (legalL p).length (flatS (legalL p)) ∧ Below W.heap.size W w' := by
  have hu := Tryz.underlying23
  have hu2 := Tryz.underlying32
  have HB0 := Aside0.mk (BoxP.new W p)
  have HL0 := Aside0.mk (below_alloc (Below.refl W.heap.size W) (.cells #[.string p.cells, .int .i64 p.side, .int .i64 p.clock, .int .i64 p.full] 23))
  have HT := Aside0.mk (fun (W' : World) (hb : Below W.heap.size W W') => hT.below hb)
  have HBG := Aside0.mk (fun (W : World) (hT : TabW W) => pbegin_c p 1 1 W hT)
  unfold BeginIs at HBG
  have hp0 : pbegS p 1 1 = 0 := by unfold pbegS; rw [if_neg (not_not_intro hw), if_neg (by omega)]
  have HB2 : Aside0 (∀ (W : World), TabW W → Calls Tryz.prog 75 #[posV p, .int .i64 1, .int .i64 1] W fun e w' => ∃ gb pb, e = .returned (.tuple #[.pointer (some ⟨gb, 0, none⟩), .int .i64 0]) ∧ GmX w' (newIn W w') gb pb (.slice none 0 0) p [] ∧ Below W.heap.size W w') := ⟨fun W hT => (HBG.out W hT).mono (fun e w' h => by rwa [if_neg (not_not_intro hp0)] at h)⟩
  have HM := Aside0.mk (fun (W : World) (hT : TabW W) => lmoves_c p W hT)
  have HLN := Aside0.mk (show (legalL p).length ≤ 8100 by rw [legal_eq hw]; exact legalR_len _ _)
  have HBH := Aside0.mk (fun (W0 : World) (S0 : Nat → Prop) (gb pb : Nat) (hT0 : TabW W0) (hS0 : InW S0 W0) (W : World) (S : Nat → Prop) (sv : Value) (he : E9 W0 S0 W S gb pb sv p []) (m : Mv) (hm : m ∈ legalL p) => behind_c he.gm (hT0.e9 he (fun k hk => (hS0 k hk).1)) (hS0.e9 hT0 he) hm (by simp))
  have HTL := Aside0.mk (fun (W1 w1 : World) (hT1 : TabW W1) (hb : Below W1.heap.size W1 w1) => show TabW w1 ∧ InW (newIn W1 w1) w1 from ⟨hT1.below hb, fun k hk => ⟨Nat.lt_of_lt_of_le hT1.lt hk.1, hk.2⟩⟩)
  clear hw hp0 HBG hT
  go_enter Tryz.func74, Tryz.ntmps74
  go_upto_region 1 with fail
  generalize W.alloc (.cells #[.string p.cells, .int .i64 p.side, .int .i64 p.clock, .int .i64 p.full] 23) = W1 at *
  obtain ⟨c0, c1, c2, c3⟩ := HB0.out
  go_wp2_with fail
  refine (HB2.out _ (HT.out _ HL0.out)).mono ?_
  rintro e w1 ⟨gb, pb, rfl, hg, hb⟩
  have HB1 := Aside0.mk (below_go HL0.out hb)
  have HX1 := Aside0.mk (HB0.out.below hb)
  obtain ⟨hT1, hS1⟩ := HTL.out W1 w1 (HT.out _ HL0.out) hb
  have HBH2 := Aside0.mk (HBH.out w1 (newIn W1 w1) gb pb hT1 hS1)
  have HS1 := Aside0.mk (And.intro hT1 hS1)
  have HS0 := Aside0.mk (show ∀ k, newIn W1 w1 k → W.heap.size ≤ k from fun k hk => Nat.le_trans HL0.out.size hk.1)
  have HE1 := Aside0.mk (E9.start hg)
  generalize newIn W1 w1 = S0 at *
  clear hg hb c0 c1 c2 c3 HBH hT1 hS1 HTL
  obtain ⟨c0, c1, c2, c3⟩ := HX1.out
  go_wp2_with fail
  refine (HM.out _ (HT.out _ HB1.out)).mono ?_
  rintro e w2 ⟨v, rfl, ho, hb⟩
  obtain ⟨A, cp, rfl⟩ := row_form ho
  have HSP : Aside0 (Sp11 w1 S0 w2 S0 gb pb (.slice none 0 0) p w1.heap.size A (legalL p).length cp (legalL p) w2.heap.size (.slice none 0 0) []) :=
    ⟨⟨HE1.out.below hb, R9.of ho (fun k hk => (HS1.out.2 k hk).2), fun a ha => own_lt ho a.block (by rw [ha]; rfl), own_nil _ _ _ _, fun g hg => by simp [Value.ownBlock] at hg, Nat.le_refl _, hb.size⟩⟩
  clear hb ho c0 c1 c2 c3 HE1 HX1 HB0 HM HB2
  generalize hll : legalL p = l at HSP HLN ⊢
  have HML := Aside0.mk hll
  clear hll
  generalize w2.heap.size = B2 at *
  have hz2 : IntKind.i64.wrap ((1 : Int) - 1) = 0 := by decide
  have hz4 : IntKind.i64.wrap 0 = 0 := by decide
  go_wp2_with fail
  go_loopg [8, 23] l.length (fun gg s8 s23 wr => ∃ (i : Nat) (S : Nat → Prop) (sv v : Value), s8 = v ∧ s23 = .int .i64 (i : Int) ∧ i + gg = l.length ∧ Aside0 (Sp11 w1 S0 wr S gb pb sv p w1.heap.size A l.length cp l B2 v (l.take i)))
  case atStart => exact ⟨0, S0, _, _, rfl, rfl, by omega, HSP⟩
  case round =>
    clear HSP
    obtain ⟨i, S, sv, v, rfl, rfl, hi, HX⟩ := hrel
    cases gk with
    | zero =>
      have hn : ¬ ((i : Int) < (l.length : Int)) := by omega
      have HIL := Aside0.mk (show l.take i = l by rw [show i = l.length by omega, List.take_length])
      clear hi
      go_wp2_with fail
      refine bodyPost_ret (by simp [results, Tryz.results74, go_sem]; try rfl) rfl ?_
      have ho := HX.out.own
      rw [HIL.out, ← HML.out] at ho
      have hbel := HB1.out.trans (HX.out.e.ken.toBelow HB1.out.size HS0.out)
      first
      | exact ⟨_, rfl, ⟨B2, ho⟩, hbel⟩
      | exact ⟨_, B2, rfl, ho, hbel⟩
    | succ g =>
      have hn : (i : Int) < (l.length : Int) := by omega
      have hil : i < l.length := by omega
      have hib : (i : Int) ≤ 8100 := by have := HLN.out; omega
      have HIN := Aside0.mk (show i + 1 + g = l.length by omega)
      obtain ⟨g1, cap1, hA1, _, hg1, hx1⟩ := HX.out.r.row.at (fun h => by rw [h] at hil; simp at hil)
      simp only [Value.slice.injEq, true_and] at hA1
      obtain ⟨rfl, rfl⟩ := hA1
      obtain ⟨x0, x1⟩ := hx1 i hil
      have HMM := Aside0.mk (show l[i] ∈ legalL p by rw [HML.out]; exact List.getElem_mem hil)
      have HTK := Aside0.mk (show l.take (i + 1) = l.take i ++ [l[i]] from List.take_succ_eq_append_getElem hil)
      have HTL := Aside0.mk (show (l.take i).length ≤ 8100 by have := HLN.out; rw [List.length_take]; omega)
      generalize hm : l[i] = m at *
      obtain ⟨ma, mb⟩ := m
      simp only at x0 x1
      generalize htk : l.take i = lt at *
      clear hx1 hi hm htk
      go_upto_region 8 with fail
      have hb3 := below_alloc (Below.refl wr.heap.size wr) (.cells #[.int .i64 (ma : Int), .int .i64 (mb : Int)] 32)
      have H3 := Aside0.mk (HX.out.below hb3)
      have D0 : Aside0 (B9 (wr.alloc (.cells #[.int .i64 (ma : Int), .int .i64 (mb : Int)] 32)) S wr.heap.size 0 (.int .i64 (ma : Int))) := ⟨⟨by simp [World.cell?_alloc_at], fun hh => by have := (HS1.out.2.e9 HS1.out.1 HX.out.e _ hh).2; omega⟩⟩
      have D1 : Aside0 (B9 (wr.alloc (.cells #[.int .i64 (ma : Int), .int .i64 (mb : Int)] 32)) S wr.heap.size 1 (.int .i64 (mb : Int))) := ⟨⟨by simp [World.cell?_alloc_at], fun hh => by have := (HS1.out.2.e9 HS1.out.1 HX.out.e _ hh).2; omega⟩⟩
      generalize wr.alloc (.cells #[.int .i64 (ma : Int), .int .i64 (mb : Int)] 32) = w3 at *
      have HVL := Aside0.mk (own_lt HX.out.own)
      generalize wr.heap.size = b10 at *
      clear hb3 HX x0 x1
      have d0 := D0.out.c
      have d1 := D1.out.c
      have HD := Aside0.mk H3.out.drew
      have E0 := Aside0.mk D0.out.drew
      have E1 := Aside0.mk D1.out.drew
      clear H3 D0 D1
      go_region_held3 (fun V => V.cell? ⟨b10, 0, none⟩ = some (.int .i64 (ma : Int)) ∧ V.cell? ⟨b10, 1, none⟩ = some (.int .i64 (mb : Int))) (go_keep)
        (first
            | (go_at_call 113; (with_reducible refine (HBH2.out _ _ _ HD.out.e (ma, mb) HMM.out).mono ?_); rintro e w5 ⟨rfl, S5, sv5, he⟩; have H5 := Aside0.mk (HD.out.go he); have F0 := Aside0.mk (E0.out.e9 he); have F1 := Aside0.mk (E1.out.e9 he); clear he HD E0 E1 d0 d1; have d0 := F0.out.c; have d1 := F1.out.c)
            | (refine step_appS _ (by rfl) (.tmp 27) (.tmp 35) (by rfl) B2 H5.out.b2 _ lt (ma, mb) (by rfl) (by rfl) H5.out.own HTL.out ?_; intro b cap w6 hown hgrow hat; have H6 := Aside0.mk (H5.out.grown (HS1.out.2.e9 HS1.out.1 H5.out.e) _ hgrow hown hat); clear d0 d1; have d0 := cell_grown hgrow HVL.out F0.out.c; have d1 := cell_grown hgrow HVL.out F1.out.c; clear hown hgrow hat))
      all_goals
        go_wp2_with fail
        go_roundg g
        case measure => omega
        case rel => exact ⟨i + 1, _, _, _, rfl, by go_num, HIN.out, ⟨by rw [HTK.out]; have h6 := H6.out; rw [show (lt ++ [(ma, mb)]).length = lt.length + 1 by simp] at h6; exact h6⟩⟩
end Go.Proofs.YtgmlojocafepiaaGreatDoor.K

/- The perft laws' live. -/
namespace Go.Proofs.YtgmlojocafepiaaGreatDoor.K
open Go.RowKit Go.Lib Go.Proofs.YtgmlojocafepiaaGreatDoorW.PrintWords Go.Proofs.YtgmlojocafepiaaGreatDoor.Sp
set_option linter.unusedVariables false
set_option linter.unusedSimpArgs false
theorem cnt_start : cntP startP 1 = (44, 0) ∧ cntP startP 0 = (1, 0) ∧ cntP startP 65 = (0, 1) ∧ pbegS startP 0 1 = 1 := by
  have hw := start_well
  have h1 : pbegS startP 1 0 = 0 := by unfold pbegS; rw [if_neg (not_not_intro hw), if_neg (by omega)]
  have h2 : pbegS startP 0 0 = 0 := by unfold pbegS; rw [if_neg (not_not_intro hw), if_neg (by omega)]
  have h3 : pbegS startP 65 0 = 1 := by unfold pbegS; rw [if_neg (not_not_intro hw), if_pos (by omega)]
  have h4 : pbegS startP 0 1 = 1 := by unfold pbegS; rw [if_neg (not_not_intro hw), if_pos (by omega)]
  refine ⟨?_, ?_, ?_, h4⟩
  · unfold cntP
    rw [if_neg (not_not_intro h1), show ((1 : Int)).toNat = 1 from rfl, lines_one, ← legal_eq hw, start_legal]
    rfl
  · unfold cntP
    rw [if_neg (not_not_intro h2)]
    rfl
  · unfold cntP
    rw [h3, if_pos (by decide)]
set_option maxRecDepth 100000 in
set_option maxHeartbeats 4000000 in
theorem live11_c (w : World) (hT : TabW w) : Calls Tryz.prog 39 #[] w fun e w' => e = .returned (.bool true) ∧ Below w.heap.size w w' := by
  have HT := Aside0.mk (fun (W : World) (hb : Below w.heap.size w W) => hT.below hb)
  obtain ⟨k1, k2, k3, k4⟩ := cnt_start
  have HC1 := Aside0.mk (fun (W : World) (hT : TabW W) => pCount_c startP 1 (by omega) W hT)
  have HC2 := Aside0.mk (fun (W : World) (hT : TabW W) => pCount_c startP 0 (by omega) W hT)
  have HC3 := Aside0.mk (fun (W : World) (hT : TabW W) => pCount_c startP 65 (by omega) W hT)
  have HS1 := Aside0.mk (fun (W : World) (hT : TabW W) => psplits_no startP 0 (by rw [k4]; decide) W hT)
  have HS2 := Aside0.mk (fun (W : World) (hT : TabW W) => psplits_c startP start_well W hT)
  rw [k1] at HC1
  rw [k2] at HC2
  rw [k3] at HC3
  rw [k4] at HS1
  have HLN := Aside0.mk start_legal
  have hu := Tryz.underlying23
  have HB0 := Aside0.mk (BoxP.new w startP)
  have HL0 := Aside0.mk (below_alloc (Below.refl w.heap.size w) (.cells #[.string startP.cells, .int .i64 startP.side, .int .i64 startP.clock, .int .i64 startP.full] 23))
  clear k1 k2 k3 k4 hT
  go_enter Tryz.func39, Tryz.ntmps39
  go_upto_region 2 with fail
  generalize w.alloc (.cells #[.string startP.cells, .int .i64 startP.side, .int .i64 startP.clock, .int .i64 startP.full] 23) = W1 at *
  obtain ⟨e0, e1, e2, e3⟩ := HB0.out
  go_wp2_with fail
  refine (HC1.out _ (HT.out _ HL0.out)).mono ?_
  rintro e w1 ⟨rfl, hb⟩
  have HL1 := Aside0.mk (below_go HL0.out hb)
  have HB1 := Aside0.mk (HB0.out.below hb)
  clear hb e0 e1 e2 e3
  obtain ⟨e0, e1, e2, e3⟩ := HB1.out
  go_wp2_with fail
  refine (HC2.out _ (HT.out _ HL1.out)).mono ?_
  rintro e w2 ⟨rfl, hb⟩
  have HL2 := Aside0.mk (below_go HL1.out hb)
  have HB2 := Aside0.mk (HB1.out.below hb)
  clear hb e0 e1 e2 e3
  obtain ⟨e0, e1, e2, e3⟩ := HB2.out
  go_wp2_with fail
  refine (HC3.out _ (HT.out _ HL2.out)).mono ?_
  rintro e w3 ⟨rfl, hb⟩
  have HL3 := Aside0.mk (below_go HL2.out hb)
  have HB3 := Aside0.mk (HB2.out.below hb)
  clear hb e0 e1 e2 e3
  obtain ⟨e0, e1, e2, e3⟩ := HB3.out
  go_wp2_with fail
  refine (HS1.out _ (HT.out _ HL3.out)).mono ?_
  rintro e w4 ⟨rfl, hb⟩
  have HL4 := Aside0.mk (below_go HL3.out hb)
  have HB4 := Aside0.mk (HB3.out.below hb)
  clear hb e0 e1 e2 e3
  obtain ⟨e0, e1, e2, e3⟩ := HB4.out
  go_wp2_with fail
  refine (HS2.out _ (HT.out _ HL4.out)).mono ?_
  rintro e w5 ⟨v, B, rfl, ho, hb⟩
  have HL5 := Aside0.mk (below_go HL4.out hb)
  rw [HLN.out] at ho
  obtain ⟨A, cp, rfl⟩ := row_form ho
  obtain ⟨gg, rfl, hc⟩ := spl_first ho (by omega)
  clear hb e0 e1 e2 e3 ho
  go_wp2_with fail
  go_ret
  exact ⟨rfl, HL5.out⟩
end Go.Proofs.YtgmlojocafepiaaGreatDoor.K

/- perft: the reference's lines, Check, Count. -/
namespace Go.Proofs.YtgmlojocafepiaaGreatDoor.K
open Go.RowKit Go.Lib Go.Proofs.YtgmlojocafepiaaGreatDoorW.PrintWords Go.Proofs.YtgmlojocafepiaaGreatDoor.Sp
set_option linter.unusedVariables false
set_option linter.unusedSimpArgs false
theorem legalR_lt {s : ByteArray} {a : Int} {m : Mv} (h : m ∈ legalR s a) : m.1 < 90 ∧ m.2 < 90 := gathM_mem (Nat.le_refl _) (List.mem_filter.1 h).1
def linG (s : ByteArray) (a : Int) (d : Nat) (m : Mv) : Nat := linesR (movedB s m.1 m.2) (1 - a) d
theorem linG_sum (s : ByteArray) (a : Int) (d : Nat) : ((legalR s a).map (linG s a d)).sum = linesR s a (d + 1) := rfl
set_option maxRecDepth 100000 in
set_option maxHeartbeats 2000000 in
theorem rlines_0 (s : ByteArray) (a : Int) (W : World) : Calls Tryz.prog 77 #[.string s, .int .i64 a, .int .i64 0] W fun e w' => e = .returned (.int .i64 (linesR s a 0 : Int)) ∧ Below W.heap.size W w' := by
  go_enter Tryz.func77, Tryz.ntmps77
  go_wp2_with fail
  go_ret
  exact ⟨rfl, Below.refl _ _⟩
set_option maxRecDepth 100000 in
set_option maxHeartbeats 4000000 in
theorem rlines_next (d : Nat) (hd : d + 1 ≤ 3) (IH : ∀ (s : ByteArray) (a : Int) (W : World), isBoard s = true → (a = 0 ∨ a = 1) → Calls Tryz.prog 77 #[.string s, .int .i64 a, .int .i64 (d : Int)] W fun e w' => e = .returned (.int .i64 (linesR s a d : Int)) ∧ Below W.heap.size W w')
    (s : ByteArray) (a : Int) (W : World) (hs : isBoard s = true) (ha : a = 0 ∨ a = 1) : Calls Tryz.prog 77 #[.string s, .int .i64 a, .int .i64 ((d + 1 : Nat) : Int)] W fun e w' => e = .returned (.int .i64 (linesR s a (d + 1) : Int)) ∧ Below W.heap.size W w' := by
  have HL := Aside0.mk (linG_sum s a d)
  have HLS := Aside0.mk (show ((legalR s a).map (linG s a d)).sum ≤ 531441000000 from lines_small (s := s) (a := a) hd)
  have HOF := Aside0.mk (fun W => rof8_c s hs a W)
  have HLT := Aside0.mk (fun (m : Mv) (hm : m ∈ legalR s a) => legalR_lt hm)
  have HMV := Aside0.mk (fun (x y : Nat) (hx : x < 90) (hy : y < 90) (W : World) => rmoved_c s (board_size hs) x y hx hy W)
  have HIH := Aside0.mk (fun (x y : Nat) (hx : x < 90) (hy : y < 90) (W : World) => IH (movedB s x y) (1 - a) W (moved_board hs hx hy) (by omega))
  have HLN := Aside0.mk (legalR_len s a)
  have b0 : (((d + 1 : Nat) : Int) == 0) = false := by simp; omega
  have b2 : IntKind.i64.wrap (((d + 1 : Nat) : Int) - 1) = (d : Int) := by rw [IntKind.wrap_i64]; omega
  have b3 : IntKind.i64.wrap (1 - a) = 1 - a := by rw [IntKind.wrap_i64]; omega
  generalize ((d + 1 : Nat) : Int) = D2 at *
  generalize legalR s a = l at *
  clear hs ha IH hd
  go_enter Tryz.func77, Tryz.ntmps77
  go_wp2_with fail
  refine (HOF.out _).mono ?_
  rintro e w2 ⟨v, rfl, ho, hb⟩
  have HR : Aside0 (MvAt w2 W.heap.size v l ∧ Below W.heap.size W w2) := ⟨ho.reads, hb⟩
  obtain ⟨A, cp, rfl⟩ := row_form ho
  clear hb ho
  go_wp2_with fail
  go_loopg [8, 9] l.length (fun gg s8 s9 wr => ∃ (i : Nat), s8 = .int .i64 ((psum l (linG s a d) i : Nat) : Int) ∧ s9 = .int .i64 (i : Int) ∧ i + gg = l.length ∧ Aside0 (MvAt wr W.heap.size (.slice A l.length cp) l ∧ Below W.heap.size W wr))
  case atStart => exact ⟨0, by rw [psum_zero]; rfl, rfl, by omega, HR⟩
  case round =>
    clear HR
    obtain ⟨i, rfl, rfl, hi, HR⟩ := hrel
    cases gk with
    | zero =>
      have hn : ¬ ((i : Int) < (l.length : Int)) := by omega
      have HIE := Aside0.mk (show psum l (linG s a d) i = linesR s a (d + 1) by rw [show i = l.length by omega, psum_all]; exact HL.out)
      rw [HIE.out]
      clear hi HIE
      go_wp2_with fail
      go_ret
      exact ⟨rfl, HR.out.2⟩
    | succ g =>
      have hn : (i : Int) < (l.length : Int) := by omega
      have hil : i < l.length := by omega
      have hib : (i : Int) ≤ 8100 := by have := HLN.out; omega
      have HIN := Aside0.mk (show i + 1 + g = l.length by omega)
      obtain ⟨g1, cap1, hA1, _, hg1, hx1⟩ := HR.out.1.at (fun h => by rw [h] at hil; simp at hil)
      simp only [Value.slice.injEq, true_and] at hA1
      obtain ⟨rfl, rfl⟩ := hA1
      obtain ⟨x0, x1⟩ := hx1 i hil
      obtain ⟨hm1, hm2⟩ := HLT.out l[i] (List.getElem_mem hil)
      have HPN := Aside0.mk (psum_next l (linG s a d) i hil)
      have HPL := Aside0.mk (show psum l (linG s a d) i + linG s a d l[i] ≤ 531441000000 by
        have h1 := psum_le l (linG s a d) (i + 1)
        have h2 := HPN.out
        have h3 := HLS.out
        omega)
      have HQL := Aside0.mk (show linesR (movedB s l[i].1 l[i].2) (1 - a) d = linG s a d l[i] from rfl)
      have HM1 := Aside0.mk (HMV.out l[i].1 l[i].2 hm1 hm2)
      have HM2 := Aside0.mk (HIH.out l[i].1 l[i].2 hm1 hm2)
      rw [HQL.out] at HM2
      generalize hsn : psum l (linG s a d) (i + 1) = sn at *
      have HSN := Aside0.mk hsn
      clear hsn HQL
      generalize psum l (linG s a d) i = sm at *
      generalize linG s a d l[i] = sl at *
      generalize l[i] = m at *
      obtain ⟨ma, mb⟩ := m
      simp only at x0 x1 HM1 HM2
      clear hx1 hi hm1 hm2 hil
      have hsum : IntKind.i64.wrap ((sm : Int) + (sl : Int)) = ((sn : Nat) : Int) := by have := HPL.out; have := HPN.out; rw [IntKind.wrap_i64]; omega
      generalize movedB s ma mb = sm2 at *
      go_wp2_with fail
      refine (HM1.out _).mono ?_
      rintro e w3 ⟨rfl, hb⟩
      have H3 := Aside0.mk (And.intro (HR.out.1.below hb) (below_go HR.out.2 hb))
      clear hb x0 x1
      go_wp2_with fail
      refine (HM2.out _).mono ?_
      rintro e w4 ⟨rfl, hb⟩
      have H4 := Aside0.mk (And.intro (H3.out.1.below hb) (below_go H3.out.2 hb))
      clear hb
      go_wp2_with fail
      go_roundg g
      case measure => omega
      case rel => exact ⟨i + 1, by rw [HSN.out], by go_num, HIN.out, H4⟩
theorem rlines_c : ∀ (d : Nat), d ≤ 3 → ∀ (s : ByteArray) (a : Int) (W : World), isBoard s = true → (a = 0 ∨ a = 1) → Calls Tryz.prog 77 #[.string s, .int .i64 a, .int .i64 (d : Int)] W fun e w' => e = .returned (.int .i64 (linesR s a d : Int)) ∧ Below W.heap.size W w'
  | 0, _, s, a, W, _, _ => rlines_0 s a W
  | d + 1, hd, s, a, W, hs, ha => rlines_next d hd (rlines_c d (by omega)) s a W hs ha
set_option maxRecDepth 100000 in
set_option maxHeartbeats 4000000 in
theorem rCheck_c (p : Pos) (hmx : p.cells.size ≤ maxLen) (d least : Int) (W : World) : Calls Tryz.prog 42 #[posV p, .int .i64 d, .int .i64 least] W fun e w' => e = .returned (.int .i64 (pbegS p d least)) ∧ Below W.heap.size W w' := by
  have hu := Tryz.underlying23
  have HWL := Aside0.mk (fun W' => rwell_c p hmx W')
  have HB0 := Aside0.mk (BoxP.new W p)
  have HL0 := Aside0.mk (below_alloc (Below.refl W.heap.size W) (.cells #[.string p.cells, .int .i64 p.side, .int .i64 p.clock, .int .i64 p.full] 23))
  rcases (show (wellS p ≠ 0 ∧ pbegS p d least = wellS p) ∨ (wellS p = 0 ∧ d < least ∧ pbegS p d least = 1) ∨ (wellS p = 0 ∧ ¬ d < least ∧ 64 < d ∧ pbegS p d least = 1) ∨ (wellS p = 0 ∧ ¬ d < least ∧ ¬ 64 < d ∧ pbegS p d least = 0) by
    unfold pbegS
    by_cases hw : wellS p = 0
    · rw [if_neg (not_not_intro hw)]
      by_cases h1 : d < least
      · rw [if_pos (.inl h1)]; exact .inr (.inl ⟨hw, h1, rfl⟩)
      · by_cases h2 : 64 < d
        · rw [if_pos (.inr h2)]; exact .inr (.inr (.inl ⟨hw, h1, h2, rfl⟩))
        · rw [if_neg (by omega)]; exact .inr (.inr (.inr ⟨hw, h1, h2, rfl⟩))
    · rw [if_pos hw]; exact .inl ⟨hw, rfl⟩) with ⟨hw, hr⟩ | ⟨hw, h1, hr⟩ | ⟨hw, h1, h2, hr⟩ | ⟨hw, h1, h2, hr⟩
  all_goals
    have HR := Aside0.mk hr
    clear hr
    first
    | rw [hw] at HWL
    | (generalize wellS p = x at *
       have hn : (x == 0) = false := by simpa using hw)
    clear hw hmx
    go_enter Tryz.func42, Tryz.ntmps42
    go_upto_region 1 with fail
    generalize W.alloc (.cells #[.string p.cells, .int .i64 p.side, .int .i64 p.clock, .int .i64 p.full] 23) = W1 at *
    obtain ⟨c0, c1, c2, c3⟩ := HB0.out
    go_wp2_with fail
    refine (HWL.out _).mono ?_
    rintro e w1 ⟨rfl, hb⟩
    have HB1 := Aside0.mk (below_go HL0.out hb)
    clear hb
    go_wp2_with fail
    go_ret
    rw [HR.out]
    exact ⟨rfl, HB1.out⟩
set_option maxRecDepth 100000 in
set_option maxHeartbeats 4000000 in
theorem rCount_c (p : Pos) (hmx : p.cells.size ≤ maxLen) (d : Int) (hd : d ≤ 3 ∨ 64 < d) (W : World) : Calls Tryz.prog 41 #[posV p, .int .i64 d] W fun e w' => e = .returned (.tuple #[.int .i64 (cntP p d).1, .int .i64 (cntP p d).2]) ∧ Below W.heap.size W w' := by
  have hu := Tryz.underlying23
  have HB0 := Aside0.mk (BoxP.new W p)
  have HL0 := Aside0.mk (below_alloc (Below.refl W.heap.size W) (.cells #[.string p.cells, .int .i64 p.side, .int .i64 p.clock, .int .i64 p.full] 23))
  have HCK := Aside0.mk (fun W => rCheck_c p hmx d 0 W)
  by_cases hb0 : pbegS p d 0 ≠ 0
  · have HR := Aside0.mk (show cntP p d = (0, pbegS p d 0) by unfold cntP; rw [if_pos hb0])
    generalize hx : pbegS p d 0 = x at *
    have hn : (x != 0) = true := by simpa using hb0
    clear hx hb0 hmx hd
    go_enter Tryz.func41, Tryz.ntmps41
    go_upto_region 1 with fail
    generalize W.alloc (.cells #[.string p.cells, .int .i64 p.side, .int .i64 p.clock, .int .i64 p.full] 23) = W1 at *
    obtain ⟨c0, c1, c2, c3⟩ := HB0.out
    go_wp2_with fail
    refine (HCK.out _).mono ?_
    rintro e w1 ⟨rfl, hb⟩
    have HB1 := Aside0.mk (below_go HL0.out hb)
    clear hb
    go_wp2_with fail
    refine bodyPost_ret (by simp [results, Tryz.results41, go_sem]; try rfl) rfl ?_
    rw [HR.out]
    exact ⟨rfl, HB1.out⟩
  · have hb1 : pbegS p d 0 = 0 := by simpa using hb0
    obtain ⟨hw, h0, h64⟩ := pbeg_zero hb1
    obtain ⟨dn, rfl⟩ : ∃ dn : Nat, d = (dn : Int) := ⟨d.toNat, by omega⟩
    have HR := Aside0.mk (show cntP p (dn : Int) = (((linesR p.cells p.side dn : Nat) : Int), (0 : Int)) by unfold cntP; rw [if_neg hb0]; rfl)
    rw [hb1] at HCK
    obtain ⟨hbd, hsd, _⟩ := argOk_yes (checkP_board (well_check hw))
    have HLC := Aside0.mk (fun W => rlines_c dn (by omega) p.cells p.side W hbd hsd)
    clear hb0 hb1 hd hw h0 h64 hbd hsd hmx
    go_enter Tryz.func41, Tryz.ntmps41
    go_upto_region 1 with fail
    generalize W.alloc (.cells #[.string p.cells, .int .i64 p.side, .int .i64 p.clock, .int .i64 p.full] 23) = W1 at *
    obtain ⟨c0, c1, c2, c3⟩ := HB0.out
    go_wp2_with fail
    refine (HCK.out _).mono ?_
    rintro e w1 ⟨rfl, hb⟩
    have HB1 := Aside0.mk (below_go HL0.out hb)
    have HX1 := Aside0.mk (HB0.out.below hb)
    clear hb c0 c1 c2 c3
    obtain ⟨c0, c1, c2, c3⟩ := HX1.out
    go_wp2_with fail
    refine (HLC.out _).mono ?_
    rintro e w2 ⟨rfl, hb⟩
    have HB2 := Aside0.mk (below_go HB1.out hb)
    clear hb
    go_wp2_with fail
    refine bodyPost_ret (by simp [results, Tryz.results41, go_sem]; try rfl) rfl ?_
    rw [HR.out]
    exact ⟨rfl, HB2.out⟩
end Go.Proofs.YtgmlojocafepiaaGreatDoor.K

/- perft: few. -/
namespace Go.Proofs.YtgmlojocafepiaaGreatDoor.K
open Go.RowKit Go.Lib Go.Proofs.YtgmlojocafepiaaGreatDoorW.PrintWords Go.Proofs.YtgmlojocafepiaaGreatDoor.Sp
set_option linter.unusedVariables false
set_option linter.unusedSimpArgs false
attribute [local go_sem] cel_get   -- for this text's walks alone
def FewIs (p : Pos) (d : Int) (W : World) (e : Ending) (w' : World) : Prop := ∃ b : Bool, e = .returned (.bool b) ∧ (b = true → p.cells.size ≤ 200 ∧ (d ≤ 3 ∨ 64 < d)) ∧ Below W.heap.size W w'
set_option maxRecDepth 100000 in
set_option maxHeartbeats 4000000 in
theorem few_c (p : Pos) (hmx : p.cells.size ≤ maxLen) (d : Int) (W : World) : Calls Tryz.prog 38 #[posV p, .int .i64 d] W (FewIs p d W) := by
  have hu := Tryz.underlying23
  have HB0 := Aside0.mk (BoxP.new W p)
  have HL0 := Aside0.mk (below_alloc (Below.refl W.heap.size W) (.cells #[.string p.cells, .int .i64 p.side, .int .i64 p.clock, .int .i64 p.full] 23))
  go_enter Tryz.func38, Tryz.ntmps38
  go_upto_region 1 with fail
  generalize W.alloc (.cells #[.string p.cells, .int .i64 p.side, .int .i64 p.clock, .int .i64 p.full] 23) = W1 at *
  obtain ⟨e0, e1, e2, e3⟩ := HB0.out
  go_wp2_with fail
  go_loopg [5, 6] 90 (fun gg s5 s6 wr => ∃ (c i : Nat), s5 = .int .i64 (c : Int) ∧ s6 = .int .i64 (i : Int) ∧ c ≤ i ∧ i + gg = 90 ∧ wr = W1)
  case atStart => exact ⟨0, 0, rfl, rfl, by omega, by omega, rfl⟩
  case round =>
    obtain ⟨c, i, rfl, rfl, hci, hi, rfl⟩ := hrel
    by_cases hgo : i < p.cells.size ∧ i < 90
    · obtain ⟨g, rfl⟩ : ∃ g, gk = g + 1 := ⟨gk - 1, by omega⟩
      have hn1 : (i : Int) < (p.cells.size : Int) := by omega
      have hn2 : (i : Int) < 90 := by omega
      have hn3 : i < p.cells.size := hgo.1
      have hcb : (c : Int) ≤ 90 := by omega
      have HI := Aside0.mk (And.intro hci hi)
      clear hgo hci hi
      cases hc : (((cel p.cells i : Nat) : Int) != 46)
      case true =>
        go_wp2_with fail
        go_roundg g
        case measure => omega
        case rel => exact ⟨c + 1, i + 1, by go_num, by go_num, by have := HI.out; omega, by have := HI.out; omega, rfl⟩
      case false =>
        go_wp2_with fail
        go_roundg g
        case measure => omega
        case rel => exact ⟨c, i + 1, by go_num, by go_num, by have := HI.out; omega, by have := HI.out; omega, rfl⟩
    · rcases (show ¬ (i : Int) < (p.cells.size : Int) ∨ ((i : Int) < (p.cells.size : Int) ∧ ¬ (i : Int) < 90) by omega) with hn1 | ⟨hn1, hn2⟩
      all_goals
        clear hgo hci hi
        rcases (show ¬ (p.cells.size : Int) ≤ 200 ∨ ((p.cells.size : Int) ≤ 200 ∧ d ≤ 1) ∨ ((p.cells.size : Int) ≤ 200 ∧ ¬ d ≤ 1 ∧ 64 < d) ∨ ((p.cells.size : Int) ≤ 200 ∧ ¬ d ≤ 1 ∧ ¬ 64 < d ∧ (c : Int) ≤ 16 ∧ d = 2) ∨ ((p.cells.size : Int) ≤ 200 ∧ ¬ d ≤ 1 ∧ ¬ 64 < d ∧ (c : Int) ≤ 16 ∧ d ≠ 2 ∧ (c : Int) ≤ 6 ∧ d ≤ 3) ∨ ((p.cells.size : Int) ≤ 200 ∧ ¬ d ≤ 1 ∧ ¬ 64 < d ∧ (c : Int) ≤ 16 ∧ d ≠ 2 ∧ (c : Int) ≤ 6 ∧ ¬ d ≤ 3) ∨ ((p.cells.size : Int) ≤ 200 ∧ ¬ d ≤ 1 ∧ ¬ 64 < d ∧ (c : Int) ≤ 16 ∧ d ≠ 2 ∧ ¬ (c : Int) ≤ 6) ∨ ((p.cells.size : Int) ≤ 200 ∧ ¬ d ≤ 1 ∧ ¬ 64 < d ∧ ¬ (c : Int) ≤ 16 ∧ ¬ (c : Int) ≤ 6) by omega) with h1 | ⟨h1, h2⟩ | ⟨h1, h2, h3⟩ | ⟨h1, h2, h3, h4, h5⟩ | ⟨h1, h2, h3, h4, h5, h6, h7⟩ | ⟨h1, h2, h3, h4, h5, h6, h7⟩ | ⟨h1, h2, h3, h4, h5, h6⟩ | ⟨h1, h2, h3, h4, h5⟩
        all_goals
          first
          | have hb2 : (d == 2) = false := by simpa using (show d ≠ 2 from h5)
          | skip
          go_wp2_with fail
          go_ret
          refine ⟨_, rfl, ?_, HL0.out⟩
          first
          | (intro _; constructor <;> omega)
          | (intro hh; cases hh)
          | (intro hh; simp at hh)
end Go.Proofs.YtgmlojocafepiaaGreatDoor.K

/- PerftCounts, PerftTurn: the walks. -/
namespace Go.Proofs.YtgmlojocafepiaaGreatDoor.K
open Go.RowKit Go.Lib Go.Proofs.YtgmlojocafepiaaGreatDoorW.PrintWords Go.Proofs.YtgmlojocafepiaaGreatDoor.Sp
set_option linter.unusedVariables false
set_option linter.unusedSimpArgs false
set_option maxRecDepth 100000 in
set_option maxHeartbeats 4000000 in
theorem perftCountsLaw (w : World) (p : Pos) (d : Int) (hmx : p.cells.size ≤ maxLen) (hT : TabW w) : Calls Tryz.prog 10 #[posV p, .int .i64 d] w fun e w' => e = .returned (.bool true) ∧ Below w.heap.size w w' := by
  have HT := Aside0.mk (fun (W : World) (hb : Below w.heap.size w W) => hT.below hb)
  have HLV := Aside0.mk (fun (W : World) (hT : TabW W) => live11_c W hT)
  have HFW := Aside0.mk (fun W => few_c p hmx d W)
  have HC1 := Aside0.mk (fun (hd : d ≤ 3 ∨ 64 < d) (W : World) (hT : TabW W) => pCount_c p d hd W hT)
  have HC2 := Aside0.mk (fun (hd : d ≤ 3 ∨ 64 < d) (W : World) => rCount_c p hmx d hd W)
  unfold FewIs at HFW
  have hu := Tryz.underlying23
  have HB0 := Aside0.mk (BoxP.new w p)
  have HL0 := Aside0.mk (below_alloc (Below.refl w.heap.size w) (.cells #[.string p.cells, .int .i64 p.side, .int .i64 p.clock, .int .i64 p.full] 23))
  generalize cntP p d = r at *
  obtain ⟨r1, r2⟩ := r
  clear hmx hT
  go_enter Tryz.func10, Tryz.ntmps10
  go_upto_region 1 with fail
  generalize w.alloc (.cells #[.string p.cells, .int .i64 p.side, .int .i64 p.clock, .int .i64 p.full] 23) = W1 at *
  obtain ⟨e0, e1, e2, e3⟩ := HB0.out
  go_wp2_with fail
  refine (HFW.out _).mono ?_
  rintro e w1 ⟨b, rfl, hfw, hb⟩
  have HL1 := Aside0.mk (below_go HL0.out hb)
  have HB1 := Aside0.mk (HB0.out.below hb)
  clear hb e0 e1 e2 e3
  obtain ⟨e0, e1, e2, e3⟩ := HB1.out
  cases b with
  | false =>
    clear hfw
    go_wp2_with fail
    refine (HLV.out _ (HT.out _ HL1.out)).mono ?_
    rintro e w2 ⟨rfl, hb⟩
    have HL2 := Aside0.mk (below_go HL1.out hb)
    clear hb
    go_wp2_with fail
    go_ret
    exact ⟨rfl, HL2.out⟩
  | true =>
    have HD := Aside0.mk (hfw rfl).2
    clear hfw
    go_wp2_with fail
    refine (HC1.out HD.out _ (HT.out _ HL1.out)).mono ?_
    rintro e w2 ⟨rfl, hb⟩
    have HL2 := Aside0.mk (below_go HL1.out hb)
    have HB2 := Aside0.mk (HB1.out.below hb)
    clear hb e0 e1 e2 e3
    obtain ⟨e0, e1, e2, e3⟩ := HB2.out
    go_wp2_with fail
    refine (HC2.out HD.out _).mono ?_
    rintro e w3 ⟨rfl, hb⟩
    have HL3 := Aside0.mk (below_go HL2.out hb)
    clear hb e0 e1 e2 e3
    go_wp2_with fail
    refine (HLV.out _ (HT.out _ HL3.out)).mono ?_
    rintro e w4 ⟨rfl, hb⟩
    have HL4 := Aside0.mk (below_go HL3.out hb)
    clear hb
    go_wp2_with fail
    go_ret
    exact ⟨rfl, HL4.out⟩
end Go.Proofs.YtgmlojocafepiaaGreatDoor.K
