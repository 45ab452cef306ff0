/- Walks and plain laws that several statements lean on, joined: no statement of the seat is proved here. -/
import Derived.Deep.Cut
import Derived.Deep.CutRange
import Derived.Test.YtafmapadkpjliaaGreatDoorProg
import Derived.Test.YtafmapadkpjliaaGreatDoorBW
import Derived.Deep.RegionHeld3
import Derived.Test.YtafmapadkpjliaaGreatDoorB7
import Derived.Test.YtafmapadkpjliaaGreatDoorB8
import Derived.Test.YtafmapadkpjliaaGreatDoorB5

/- Plain law: a game, move by move, on and back. -/
namespace Go.Proofs.YtafmapadkpjliaaGreatDoor.K
open Go.RowKit Go.Lib Go.Proofs.YtafmapadkpjliaaGreatDoorW.PrintWords Go.Proofs.YtafmapadkpjliaaGreatDoor.Sp
set_option linter.unusedVariables false
set_option linter.unusedSimpArgs false
/-- The squares of a side's pieces. -/
def sqF (s : ByteArray) (a : Int) : Nat → Bool := fun i => sideN (cel s i) == a
theorem setF_congr {f g : Nat → Bool} (h : ∀ i, i < 90 → f i = g i) : setF f = setF g := by
  have h1 : loB f = loB g := bitsTo_congr fun i hi => h i (by omega)
  have h2 : hiB f = hiB g := bitsTo_congr fun i hi => h (45 + i) (by omega)
  show setV (loB f) (hiB f) = setV (loB g) (hiB g)
  rw [h1, h2]
theorem sq_pieces {s : ByteArray} (hs : isBoard s = true) (a : Int) (ha : 0 ≤ a) : memL (sqF s a) = piecesS s a := by
  unfold memL piecesS sqF
  rw [if_pos hs, decide_eq_true ha]
  refine List.filter_congr fun i _ => ?_
  rw [Bool.true_and, Bool.eq_iff_iff, beq_iff_eq, decide_eq_true_eq]
/-- What is needed to take a move back. -/
structure Und where
  mv : Mv
  tk : Nat
  ck : Int
  fl : Int
/-- A board ahead of a move. -/
def backB (s : ByteArray) (m : Mv) (c : Nat) : ByteArray := strOfNums (((bytesOf s).set m.1 (cel s m.2 : Int)).set m.2 (if c = 0 then 46 else (c : Int)))
theorem back_size (s : ByteArray) (m : Mv) (c : Nat) : (backB s m c).size = s.size := by
  have h : ∀ xs : List Int, (strOfNums xs).size = xs.length := fun xs => by simp [strOfNums, ByteArray.size]
  unfold backB
  rw [h, List.length_set, List.length_set, bytesOf_length]
theorem back_cel {s : ByteArray} {m : Mv} {c n : Nat} (hc : c < 256) (hb : m.2 < s.size) (hn : n < s.size) : cel (backB s m c) n = if n = m.2 then (if c = 0 then 46 else c) else if n = m.1 then cel s m.2 else cel s n := by
  have hl : (((bytesOf s).set m.1 (cel s m.2 : Int)).set m.2 (if c = 0 then 46 else (c : Int))).length = s.size := by rw [List.length_set, List.length_set, bytesOf_length]
  have hg : (((bytesOf s).set m.1 (cel s m.2 : Int)).set m.2 (if c = 0 then 46 else (c : Int)))[n]'(by omega) = ((if n = m.2 then (if c = 0 then 46 else c) else if n = m.1 then cel s m.2 else cel s n : Nat) : Int) := by
    rw [List.getElem_set]
    by_cases h1 : n = m.2
    · rw [if_pos h1.symm, if_pos h1]; split <;> rfl
    · rw [if_neg (Ne.symm h1), if_neg h1, List.getElem_set]
      by_cases h2 : n = m.1
      · rw [if_pos h2.symm, if_pos h2]
      · rw [if_neg (Ne.symm h2), if_neg h2]
        have := bytes_getD s n hn
        rw [List.getD_eq_getElem?_getD, List.getElem?_eq_getElem (by rw [bytesOf_length]; exact hn)] at this
        exact this
  have hlt : (if n = m.2 then (if c = 0 then 46 else c) else if n = m.1 then cel s m.2 else cel s n) < 256 := by
    split
    · split <;> omega
    · split <;> exact cel_lt _ _
  unfold backB
  rw [cel_nums _ n (by omega) (by rw [hg]; omega), hg]
  simp
/-- What is known of a move that may be made. -/
structure OkMv (p q : Pos) (m : Mv) (c : Nat) : Prop where
  bd : isBoard p.cells = true
  a90 : m.1 < 90
  b90 : m.2 < 90
  ne : m.1 ≠ m.2
  qc : q.cells = movedB p.cells m.1 m.2
  qs : q.side = 1 - p.side
  sd : p.side = 0 ∨ p.side = 1
  own : sideN (cel p.cells m.1) = p.side
  oth : sideN (cel p.cells m.2) ≠ p.side
  tk : c = if cel p.cells m.2 = 46 then 0 else cel p.cells m.2
  wq : wellS q = 0
theorem okMv {p q : Pos} {m : Mv} {c : Nat} (hw : wellS p = 0) (hs : safeS p (mviOf m) = true) (hm : makeP p (mviOf m) = (q, c, 0)) : OkMv p q m c := by
  have hck := well_check hw
  have hgd := safe_is_good hck hs
  obtain ⟨⟨f0, f1⟩, ⟨g0, g1⟩, h1, h2, h3⟩ := (ok_good hck).1 hgd
  simp only [Int.toNat_natCast] at h1 h2 h3 f0 f1 g0 g1
  obtain ⟨hbd, hsd, _⟩ := argOk_yes (checkP_board hck)
  have hb : m.2 < 90 := by omega
  have ha : m.1 < 90 := by omega
  obtain ⟨_, _, _, hab, _⟩ := move_parts hck ha hb h1 h2
  have hat : atS p.cells (m.2 : Int) = cel p.cells m.2 := by unfold atS; rw [if_pos ⟨hbd, by omega, by omega⟩]; rfl
  rw [make_ok hw hs, apply_good hck hgd] at hm
  simp only [Prod.mk.injEq] at hm
  obtain ⟨rfl, hc, _⟩ := hm
  rw [hat] at hc
  unfold fastN at h2
  simp only [Bool.and_eq_true, bne_iff_ne, ne_eq, decide_eq_true_eq] at h2
  refine ⟨hbd, ha, hb, hab, rfl, rfl, hsd, h1, ?_, hc.symm, ?_⟩
  · rw [← h1]; exact h2.1.2
  · unfold safeS at hs
    rw [apply_good hck hgd] at hs
    simp only [Bool.and_eq_true, beq_iff_eq] at hs
    exact hs.2
theorem OkMv.c_lt {p q : Pos} {m : Mv} {c : Nat} (h : OkMv p q m c) : c < 256 := by
  rw [h.tk]; split
  · omega
  · exact cel_lt _ _
theorem OkMv.qcel {p q : Pos} {m : Mv} {c : Nat} (h : OkMv p q m c) {n : Nat} (hn : n < 90) : cel q.cells n = moveC (cel p.cells) m.1 m.2 n := by
  have hz := board_size h.bd
  have := h.a90
  have := h.b90
  rw [h.qc, moved_cel (by omega) (by omega) (by omega)]
theorem OkMv.qbd {p q : Pos} {m : Mv} {c : Nat} (h : OkMv p q m c) : isBoard q.cells = true := by rw [h.qc]; exact moved_board h.bd h.a90 h.b90
theorem OkMv.back {p q : Pos} {m : Mv} {c : Nat} (h : OkMv p q m c) : backB q.cells m c = p.cells := by
  have hz := board_size h.bd
  have hz2 := board_size h.qbd
  have ha := h.a90
  have hb := h.b90
  have hne := h.ne
  refine board_same (by rw [back_size, hz2]) hz (fun n hn => ?_)
  rw [back_cel h.c_lt (by omega) (by omega)]
  by_cases h1 : n = m.2
  · rw [if_pos h1, h1, h.tk]
    by_cases h46 : cel p.cells m.2 = 46
    · rw [if_pos h46, if_pos rfl, h46]
    · have h0 : cel p.cells m.2 ≠ 0 := by
        have hl : ∀ x ∈ letters, x ≠ 0 := by decide
        exact hl _ (board_cell h.bd hb)
      rw [if_neg h46, if_neg h0]
  · rw [if_neg h1]
    by_cases h2 : n = m.1
    · rw [if_pos h2, h.qcel hb, h2]
      unfold moveC setC
      rw [if_neg (Ne.symm hne), if_pos rfl]
    · rw [if_neg h2, h.qcel hn]
      unfold moveC setC
      rw [if_neg h2, if_neg h1]
theorem OkMv.set_own {p q : Pos} {m : Mv} {c : Nat} (h : OkMv p q m c) : setF (putF (cutF (sqF p.cells p.side) m.1) m.2) = setF (sqF q.cells p.side) := by
  refine setF_congr fun i hi => ?_
  have hne := h.ne
  have hsd := h.sd
  unfold putF cutF sqF
  rw [h.qcel hi]
  unfold moveC setC
  by_cases h1 : i = m.1
  · rw [if_pos h1, h1]
    have e : (m.1 == m.2) = false := beq_eq_false_iff_ne.2 hne
    have e2 : (sideN 46 == p.side) = false := by rw [beq_eq_false_iff_ne, show sideN 46 = -1 from by decide]; omega
    rw [e, e2]; simp
  · rw [if_neg h1]
    have e1 : (i == m.1) = false := beq_eq_false_iff_ne.2 h1
    rw [e1]
    by_cases h2 : i = m.2
    · rw [if_pos h2, h2, h.own]; simp
    · have e2 : (i == m.2) = false := beq_eq_false_iff_ne.2 h2
      rw [if_neg h2, e2]; simp
theorem OkMv.set_oth {p q : Pos} {m : Mv} {c : Nat} (h : OkMv p q m c) : setF (cutF (sqF p.cells (1 - p.side)) m.2) = setF (sqF q.cells (1 - p.side)) := by
  refine setF_congr fun i hi => ?_
  have hne := h.ne
  have hsd := h.sd
  unfold cutF sqF
  rw [h.qcel hi]
  unfold moveC setC
  by_cases h1 : i = m.1
  · rw [if_pos h1, h1, h.own]
    have e2 : (sideN 46 == 1 - p.side) = false := by rw [beq_eq_false_iff_ne, show sideN 46 = -1 from by decide]; omega
    have e3 : (p.side == 1 - p.side) = false := by rw [beq_eq_false_iff_ne]; omega
    rw [e2, e3]; rfl
  · rw [if_neg h1]
    by_cases h2 : i = m.2
    · rw [if_pos h2, h2, h.own]
      have e3 : (p.side == 1 - p.side) = false := by rw [beq_eq_false_iff_ne]; omega
      rw [e3]; simp
    · have e2 : (i == m.2) = false := beq_eq_false_iff_ne.2 h2
      rw [if_neg h2, e2]; simp
theorem OkMv.back_own {p q : Pos} {m : Mv} {c : Nat} (h : OkMv p q m c) : setF (putF (cutF (sqF q.cells p.side) m.2) m.1) = setF (sqF p.cells p.side) := by
  refine setF_congr fun i hi => ?_
  have hne := h.ne
  have hsd := h.sd
  unfold putF cutF sqF
  rw [h.qcel hi]
  unfold moveC setC
  by_cases h1 : i = m.1
  · rw [h1, h.own]; simp
  · have e1 : (i == m.1) = false := beq_eq_false_iff_ne.2 h1
    rw [if_neg h1, e1]
    by_cases h2 : i = m.2
    · have e3 : (sideN (cel p.cells m.2) == p.side) = false := by rw [beq_eq_false_iff_ne]; exact h.oth
      rw [if_pos h2, h2, e3]; simp
    · have e2 : (i == m.2) = false := beq_eq_false_iff_ne.2 h2
      rw [if_neg h2, e2]; simp
theorem OkMv.back_oth {p q : Pos} {m : Mv} {c : Nat} (h : OkMv p q m c) : (c = 0 → setF (sqF q.cells (1 - p.side)) = setF (sqF p.cells (1 - p.side))) ∧ (c ≠ 0 → setF (putF (sqF q.cells (1 - p.side)) m.2) = setF (sqF p.cells (1 - p.side))) := by
  have hne := h.ne
  have hsd := h.sd
  have e46 : (sideN 46 == 1 - p.side) = false := by rw [beq_eq_false_iff_ne, show sideN 46 = -1 from by decide]; omega
  have e3 : (p.side == 1 - p.side) = false := by rw [beq_eq_false_iff_ne]; omega
  have hl0 : cel p.cells m.2 ≠ 0 := by
    have hl : ∀ x ∈ letters, x ≠ 0 := by decide
    exact hl _ (board_cell h.bd h.b90)
  constructor
  · intro hc
    have h46 : cel p.cells m.2 = 46 := by
      have := h.tk
      rw [hc] at this
      by_cases h46 : cel p.cells m.2 = 46
      · exact h46
      · rw [if_neg h46] at this; exact absurd this.symm hl0
    refine setF_congr fun i hi => ?_
    unfold sqF
    rw [h.qcel hi]
    unfold moveC setC
    by_cases h1 : i = m.1
    · rw [if_pos h1, h1, h.own, e46, e3]
    · rw [if_neg h1]
      by_cases h2 : i = m.2
      · rw [if_pos h2, h2, h.own, h46, e46, e3]
      · rw [if_neg h2]
  · intro hc
    have h46 : cel p.cells m.2 ≠ 46 := by
      intro h46
      have := h.tk
      rw [if_pos h46] at this
      exact hc this
    have hso : sideN (cel p.cells m.2) = 1 - p.side := by
      rcases letter_side _ (board_cell h.bd h.b90) with ⟨h1, _⟩ | ⟨_, h1⟩ | ⟨_, h1⟩
      · exact absurd h1 h46
      · have := h.oth; omega
      · have := h.oth; omega
    refine setF_congr fun i hi => ?_
    unfold putF sqF
    rw [h.qcel hi]
    unfold moveC setC
    by_cases h1 : i = m.1
    · have e1 : (i == m.2) = false := by rw [h1]; exact beq_eq_false_iff_ne.2 hne
      rw [if_pos h1, e1, h1, h.own, e46, e3]; rfl
    · rw [if_neg h1]
      by_cases h2 : i = m.2
      · rw [h2, hso]; simp
      · have e2 : (i == m.2) = false := beq_eq_false_iff_ne.2 h2
        rw [if_neg h2, e2]; simp
/-- Positions that a game was at, what is needed to go back, and where it is now. -/
inductive Plays : List Pos → List Und → Pos → Prop
  | nil (p : Pos) : wellS p = 0 → Plays [] [] p
  | snoc {ps : List Pos} {us : List Und} {p q : Pos} {u : Und} : Plays ps us p → wellS p = 0 → safeS p (mviOf u.mv) = true → makeP p (mviOf u.mv) = (q, u.tk, 0) → u.ck = p.clock → u.fl = p.full → Plays (ps ++ [p]) (us ++ [u]) q
theorem Plays.well {ps : List Pos} {us : List Und} {p : Pos} (h : Plays ps us p) : wellS p = 0 := by
  cases h with
  | nil _ h => exact h
  | snoc _ h1 h2 h3 _ _ => exact (okMv h1 h2 h3).wq
theorem Plays.pop {ps : List Pos} {us : List Und} {q : Pos} {u : Und} (h : Plays ps (us ++ [u]) q) : ∃ ps' p, ps = ps' ++ [p] ∧ Plays ps' us p ∧ OkMv p q u.mv u.tk ∧ u.ck = p.clock ∧ u.fl = p.full := by
  generalize hx : us ++ [u] = x at h
  cases h with
  | nil _ _ => simp at hx
  | snoc h1 h2 h3 h4 h5 h6 =>
    obtain ⟨e1, e2⟩ := List.append_inj' hx rfl
    simp only [List.cons.injEq, and_true] at e2
    subst e1 e2
    exact ⟨_, _, rfl, h1, okMv h2 h3 h4, h5, h6⟩
theorem Plays.len {ps : List Pos} {us : List Und} {q : Pos} (h : Plays ps us q) : ps.length = us.length := by
  induction h with
  | nil => rfl
  | snoc _ _ _ _ _ _ ih => simp [ih]
end Go.Proofs.YtafmapadkpjliaaGreatDoor.K

/- Plain law of GameSquares: how many pieces there are. -/
namespace Go.Proofs.YtafmapadkpjliaaGreatDoor.K
open Go.RowKit Go.Lib Go.Proofs.YtafmapadkpjliaaGreatDoorW.PrintWords Go.Proofs.YtafmapadkpjliaaGreatDoor.Sp
set_option linter.unusedVariables false
set_option linter.unusedSimpArgs false
/-- How many pieces. -/
def nP (s : ByteArray) : Nat := (piecesS s 0).length + (piecesS s 1).length
/-- How many squares are empty. -/
def nE (c : Nat → Nat) : Nat := (List.range 90).countP fun i => c i == 46
theorem count_three (f g h : Nat → Bool) (l : List Nat) (hl : ∀ x ∈ l, (f x = true ∧ g x = false ∧ h x = false) ∨ (f x = false ∧ g x = true ∧ h x = false) ∨ (f x = false ∧ g x = false ∧ h x = true)) : l.countP f + l.countP g + l.countP h = l.length := by
  induction l with
  | nil => rfl
  | cons x r ih =>
    have hr := ih (fun y hy => hl y (List.mem_cons_of_mem _ hy))
    rcases hl x (List.mem_cons_self ..) with ⟨h1, h2, h3⟩ | ⟨h1, h2, h3⟩ | ⟨h1, h2, h3⟩ <;> simp only [List.countP_cons, h1, h2, h3, List.length_cons, if_true, Bool.false_eq_true, if_false] <;> omega
theorem nP_nE {s : ByteArray} (hs : isBoard s = true) : nP s + nE (cel s) = 90 := by
  have h := count_three (fun i => decide ((0 : Int) ≤ 0) && decide (sideN (cel s i) = 0)) (fun i => decide ((0 : Int) ≤ 1) && decide (sideN (cel s i) = 1)) (fun i => cel s i == 46) (List.range 90) (fun x hx => by
    have hx : x < 90 := by simpa using hx
    have hn : sideN 46 = -1 := by decide
    rcases letter_side _ (board_cell hs hx) with ⟨h1, _⟩ | ⟨h0, h1⟩ | ⟨h0, h1⟩
    · right; right; simp [h1, hn]
    · left; simp [h1]; exact h0
    · right; left; simp [h1]; exact h0)
  unfold nP nE piecesS
  rw [if_pos hs, if_pos hs, ← List.countP_eq_length_filter, ← List.countP_eq_length_filter, h]
  simp
theorem count_set (n a : Nat) (f g : Nat → Bool) (ha : a < n) (h : ∀ i, i ≠ a → f i = g i) : (List.range n).countP f + (if g a = true then 1 else 0) = (List.range n).countP g + (if f a = true then 1 else 0) := by
  have key : ∀ n, n ≤ a → (List.range n).countP f = (List.range n).countP g := by
    intro n hn
    refine List.countP_congr fun x hx => ?_
    have : x < n := by simpa using hx
    rw [h x (by omega)]
  induction n with
  | zero => omega
  | succ n ih =>
    rw [List.range_succ, List.countP_append, List.countP_append, List.countP_singleton, List.countP_singleton]
    by_cases hn : n = a
    · subst hn
      rw [key n (Nat.le_refl _)]
      omega
    · have := ih (by omega)
      rw [h n hn]
      omega
theorem nE_set (c : Nat → Nat) (a v : Nat) (ha : a < 90) : nE (setC c a v) + (if c a = 46 then 1 else 0) = nE c + (if v = 46 then 1 else 0) := by
  have h := count_set 90 a (fun i => setC c a v i == 46) (fun i => c i == 46) ha (fun i hi => by unfold setC; rw [if_neg hi])
  have e : setC c a v a = v := by unfold setC; rw [if_pos rfl]
  simp only [e, beq_iff_eq] at h
  exact h
/-- A capture takes one away. -/
theorem OkMv.count {p q : Pos} {m : Mv} {c : Nat} (h : OkMv p q m c) : nP q.cells + (if c = 0 then 0 else 1) = nP p.cells := by
  have h1 := nP_nE h.bd
  have h2 := nP_nE h.qbd
  have e : nE (cel q.cells) = nE (moveC (cel p.cells) m.1 m.2) := by
    unfold nE
    refine List.countP_congr fun x hx => ?_
    have hx : x < 90 := by simpa using hx
    rw [h.qcel hx]
  have hl0 : cel p.cells m.2 ≠ 0 := by
    have hl : ∀ x ∈ letters, x ≠ 0 := by decide
    exact hl _ (board_cell h.bd h.b90)
  have hown : cel p.cells m.1 ≠ 46 := by
    intro h46
    have := h.own
    rw [h46, show sideN 46 = -1 from by decide] at this
    have := h.sd
    omega
  have s1 := nE_set (cel p.cells) m.2 (cel p.cells m.1) h.b90
  have s2 := nE_set (setC (cel p.cells) m.2 (cel p.cells m.1)) m.1 46 h.a90
  have e2 : setC (cel p.cells) m.2 (cel p.cells m.1) m.1 = cel p.cells m.1 := by unfold setC; rw [if_neg h.ne]
  rw [e2, if_neg hown, if_pos rfl] at s2
  rw [if_neg hown] at s1
  have e3 : nE (moveC (cel p.cells) m.1 m.2) = nE (setC (setC (cel p.cells) m.2 (cel p.cells m.1)) m.1 46) := rfl
  have ht := h.tk
  by_cases h46 : cel p.cells m.2 = 46
  · rw [if_pos h46] at s1 ht
    rw [if_pos ht]
    omega
  · rw [if_neg h46] at s1 ht
    rw [if_neg (by rw [ht]; exact hl0)]
    omega
end Go.Proofs.YtafmapadkpjliaaGreatDoor.K

/- Plain law of value: what a position is worth, and what a move changes of it. -/
namespace Go.Proofs.YtafmapadkpjliaaGreatDoor.K
open Go.RowKit Go.Lib Go.Proofs.YtafmapadkpjliaaGreatDoorW.PrintWords Go.Proofs.YtafmapadkpjliaaGreatDoor.Sp
set_option linter.unusedVariables false
set_option linter.unusedSimpArgs false
/-- What a kind is worth. -/
def kindV (k : Nat) : Int := if k = 80 then 30 else if k = 65 ∨ k = 66 then 40 else if k = 78 then 90 else if k = 67 then 95 else if k = 82 then 200 else 0
def asideN (n : Nat) : Int := max (((n % 9 : Nat) : Int) - 4) (4 - ((n % 9 : Nat) : Int))
def rankN (c n : Nat) : Int := if sideN c = 1 then 9 - ((n / 9 : Nat) : Int) else ((n / 9 : Nat) : Int)
/-- What a piece on a square is worth. -/
def pieceV (c n : Nat) : Int :=
  if sideN c < 0 then 0 else
  kindV (kindN c) + (if kindN c = 80 then (if overN n (sideN c) = true then (if asideN n ≤ 1 then 50 else 40) else 0) else if kindN c = 78 ∨ kindN c = 67 ∨ kindN c = 82 then rankN c n + 4 - asideN n else 0)
theorem pieceV_none {c : Nat} (h : sideN c < 0) (n : Nat) : pieceV c n = 0 := by unfold pieceV; rw [if_pos h]
theorem kindV_le (k : Nat) : 0 ≤ kindV k ∧ kindV k ≤ 200 := by
  unfold kindV
  repeat' split
  all_goals omega
theorem pieceV_le (c : Nat) {n : Nat} (hn : n < 90) : -300 ≤ pieceV c n ∧ pieceV c n ≤ 300 := by
  have hk := kindV_le (kindN c)
  have ha : 0 ≤ asideN n ∧ asideN n ≤ 4 := by unfold asideN; omega
  have hr : 0 ≤ rankN c n ∧ rankN c n ≤ 9 := by
    unfold rankN
    split <;> omega
  unfold pieceV
  repeat' split
  all_goals omega
/-- A side's own counts for it, the other's against it. -/
def ownV (a : Int) (c n : Nat) : Int := if sideN c = a then pieceV c n else - pieceV c n
def sumV (f : Nat → Int) : Nat → Int
  | 0 => 0
  | n + 1 => sumV f n + f n
theorem sumV_congr {f g : Nat → Int} {n : Nat} (h : ∀ i, i < n → f i = g i) : sumV f n = sumV g n := by
  induction n with
  | zero => rfl
  | succ n ih => show sumV f n + f n = sumV g n + g n; rw [ih (fun i hi => h i (by omega)), h n (by omega)]
theorem sumV_neg (f : Nat → Int) (n : Nat) : sumV (fun i => - f i) n = - sumV f n := by
  induction n with
  | zero => rfl
  | succ n ih => show sumV (fun i => - f i) n + - f n = - (sumV f n + f n); rw [ih]; omega
theorem sumV_at {f g : Nat → Int} {a n : Nat} (ha : a < n) (h : ∀ i, i ≠ a → f i = g i) : sumV f n - f a = sumV g n - g a := by
  induction n with
  | zero => omega
  | succ n ih =>
    show sumV f n + f n - f a = sumV g n + g n - g a
    by_cases he : a = n
    · subst he
      have := sumV_congr (f := f) (g := g) (n := a) (fun i hi => h i (by omega))
      omega
    · have := ih (by omega)
      have h2 := h n (Ne.symm he)
      omega
theorem sumV_le {f : Nat → Int} {b : Int} {n : Nat} (h : ∀ i, i < n → -b ≤ f i ∧ f i ≤ b) : -(b * n) ≤ sumV f n ∧ sumV f n ≤ b * n := by
  induction n with
  | zero => simp [sumV]
  | succ n ih =>
    have h1 := ih (fun i hi => h i (by omega))
    have h2 := h n (by omega)
    have e : b * ((n + 1 : Nat) : Int) = b * n + b := by rw [Int.natCast_succ, Int.mul_add, Int.mul_one]
    show -(b * ((n + 1 : Nat) : Int)) ≤ sumV f n + f n ∧ sumV f n + f n ≤ b * ((n + 1 : Nat) : Int)
    rw [e]
    omega
/-- What a board is worth to a side. -/
def valS (s : ByteArray) (a : Int) : Int := sumV (fun n => ownV a (cel s n) n) 90
theorem ownV_le (a : Int) (c : Nat) {n : Nat} (hn : n < 90) : -300 ≤ ownV a c n ∧ ownV a c n ≤ 300 := by
  have := pieceV_le c hn
  unfold ownV
  split <;> omega
theorem valS_le (s : ByteArray) (a : Int) : -27000 ≤ valS s a ∧ valS s a ≤ 27000 := by
  have := sumV_le (f := fun n => ownV a (cel s n) n) (b := 300) (n := 90) (fun i hi => ownV_le a _ hi)
  unfold valS
  omega
theorem ownV_flip {c : Nat} (hc : c ∈ letters) {a : Int} (ha : a = 0 ∨ a = 1) (n : Nat) : ownV (1 - a) c n = - ownV a c n := by
  unfold ownV
  rcases letter_side c hc with ⟨_, h⟩ | ⟨_, h⟩ | ⟨_, h⟩
  · rw [pieceV_none (by omega)]; simp
  · rcases ha with rfl | rfl <;> simp [h]
  · rcases ha with rfl | rfl <;> simp [h]
/-- What it is worth to the other side behind a move. -/
theorem val_moved {p q : Pos} {m : Mv} {c : Nat} (h : OkMv p q m c) : valS q.cells q.side = pieceV (cel p.cells m.1) m.1 - pieceV (cel p.cells m.1) m.2 - pieceV c m.2 - valS p.cells p.side := by
  have hsd := h.sd
  have hne := h.ne
  have hbd := h.bd
  have e0 : valS q.cells q.side = - sumV (fun n => ownV p.side (moveC (cel p.cells) m.1 m.2 n) n) 90 := by
    unfold valS
    rw [← sumV_neg]
    refine sumV_congr fun i hi => ?_
    show ownV q.side (cel q.cells i) i = - ownV p.side (moveC (cel p.cells) m.1 m.2 i) i
    rw [← h.qcel hi, h.qs]
    exact ownV_flip (board_cell h.qbd hi) hsd i
  have e1 := sumV_at (f := fun n => ownV p.side (moveC (cel p.cells) m.1 m.2 n) n) (g := fun n => ownV p.side (if n = m.2 then cel p.cells m.1 else cel p.cells n) n) h.a90 (fun i hi => by
    show ownV p.side (moveC (cel p.cells) m.1 m.2 i) i = _
    unfold moveC setC
    rw [if_neg hi])
  have e2 := sumV_at (f := fun n => ownV p.side (if n = m.2 then cel p.cells m.1 else cel p.cells n) n) (g := fun n => ownV p.side (cel p.cells n) n) h.b90 (fun i hi => by
    show ownV p.side (if i = m.2 then cel p.cells m.1 else cel p.cells i) i = _
    rw [if_neg hi])
  have f1 : ownV p.side (moveC (cel p.cells) m.1 m.2 m.1) m.1 = 0 := by
    unfold moveC setC
    rw [if_pos rfl]
    unfold ownV
    rw [pieceV_none (by decide)]
    simp
  have f2 : ownV p.side (if m.1 = m.2 then cel p.cells m.1 else cel p.cells m.1) m.1 = pieceV (cel p.cells m.1) m.1 := by
    rw [if_neg hne]; unfold ownV; rw [if_pos h.own]
  have f3 : ownV p.side (if m.2 = m.2 then cel p.cells m.1 else cel p.cells m.2) m.2 = pieceV (cel p.cells m.1) m.2 := by
    rw [if_pos rfl]; unfold ownV; rw [if_pos h.own]
  have f4 : ownV p.side (cel p.cells m.2) m.2 = - pieceV c m.2 := by
    unfold ownV
    rw [if_neg h.oth, h.tk]
    by_cases h46 : cel p.cells m.2 = 46
    · rw [if_pos h46, h46, pieceV_none (by decide), pieceV_none (by decide)]
    · rw [if_neg h46]
  rw [f1, f2] at e1
  rw [f3, f4] at e2
  have e3 : valS p.cells p.side = sumV (fun n => ownV p.side (cel p.cells n) n) 90 := rfl
  rw [e0, e3]
  omega
end Go.Proofs.YtafmapadkpjliaaGreatDoor.K

/- Walks of value: Kind, Piece. -/
namespace Go.Proofs.YtafmapadkpjliaaGreatDoor.K
open Go.RowKit Go.Lib Go.Proofs.YtafmapadkpjliaaGreatDoorW.PrintWords Go.Proofs.YtafmapadkpjliaaGreatDoor.Sp
set_option linter.unusedVariables false
set_option linter.unusedSimpArgs false
theorem kindN_opts : ∀ x : Fin 256, kindN x.1 = 0 ∨ kindN x.1 = 75 ∨ kindN x.1 = 65 ∨ kindN x.1 = 66 ∨ kindN x.1 = 78 ∨ kindN x.1 = 67 ∨ kindN x.1 = 82 ∨ kindN x.1 = 80 := by decide +kernel
theorem side_kind : ∀ x : Fin 256, 0 ≤ sideN x.1 → kindN x.1 ≠ 0 := by decide +kernel
theorem idxK_0 : Lib.indexByte [75, 65, 66, 78, 67, 82, 80] (UInt8.ofNat 0) = -1 := by decide
theorem idxK_75 : Lib.indexByte [75, 65, 66, 78, 67, 82, 80] (UInt8.ofNat 75) = 0 := by decide
theorem idxK_65 : Lib.indexByte [75, 65, 66, 78, 67, 82, 80] (UInt8.ofNat 65) = 1 := by decide
theorem idxK_66 : Lib.indexByte [75, 65, 66, 78, 67, 82, 80] (UInt8.ofNat 66) = 2 := by decide
theorem idxK_78 : Lib.indexByte [75, 65, 66, 78, 67, 82, 80] (UInt8.ofNat 78) = 3 := by decide
theorem idxK_67 : Lib.indexByte [75, 65, 66, 78, 67, 82, 80] (UInt8.ofNat 67) = 4 := by decide
theorem idxK_82 : Lib.indexByte [75, 65, 66, 78, 67, 82, 80] (UInt8.ofNat 82) = 5 := by decide
theorem idxK_80 : Lib.indexByte [75, 65, 66, 78, 67, 82, 80] (UInt8.ofNat 80) = 6 := by decide
set_option maxRecDepth 100000 in
set_option maxHeartbeats 2000000 in
theorem vkind_c (x : Nat) (hx : x < 256) (w : World) : Calls Tryz.prog 72 #[.int .u8 (x : Int)] w fun e w' => e = .returned (.int .i64 (kindV (kindN x))) ∧ Below w.heap.size w w' := by
  have HK := Aside0.mk (fun W => kind_c x hx W)
  rcases kindN_opts ⟨x, hx⟩ with h | h | h | h | h | h | h | h
  all_goals
    simp only at h
    simp only [h] at HK
    rw [h]
    clear h
    go_enter Tryz.func72, Tryz.ntmps72
    go_wp2_with (first | (go_at_call 96; refine (HK.out _).mono ?_; rintro e w' ⟨rfl, rfl⟩) | (go_at_call 107; refine (Tryz.strings_IndexByte _ _ _).mono ?_; rintro e w' ⟨rfl, rfl⟩; simp only [idxK_0, idxK_75, idxK_65, idxK_66, idxK_78, idxK_67, idxK_82, idxK_80]))
    go_ret
    exact ⟨rfl, by (repeat' (first | (with_reducible exact Below.refl _ _) | (with_reducible refine pw_below_drewN ?_ _) | (with_reducible refine below_alloc ?_ _) | (with_reducible refine Below.drew ?_) | (with_reducible refine Below.setCell ?_ ?_ _) | (simp; done)))⟩
theorem pieceV_side {x : Nat} (h : ¬ sideN x < 0) (n : Nat) : pieceV x n = kindV (kindN x) + (if kindN x = 80 then (if overN n (sideN x) = true then (if asideN n ≤ 1 then 50 else 40) else 0) else if kindN x = 78 ∨ kindN x = 67 ∨ kindN x = 82 then rankN x n + 4 - asideN n else 0) := by unfold pieceV; rw [if_neg h]
theorem side_opts (x : Nat) : sideN x = -1 ∨ sideN x = 0 ∨ sideN x = 1 := by have := sideN_le x; omega
theorem aside_eq {n : Nat} (hn : n < 90) : max (((n % 9 : Nat) : Int) - 4) (4 - ((n % 9 : Nat) : Int)) = asideN n := rfl
set_option maxRecDepth 100000 in
set_option maxHeartbeats 4000000 in
theorem piece_c (x n : Nat) (hx : x < 256) (hn : n < 90) (w : World) : Calls Tryz.prog 106 #[.int .u8 (x : Int), .int .i64 (n : Int)] w fun e w' => e = .returned (.int .i64 (pieceV x n)) ∧ Below w.heap.size w w' := by
  have HF := Aside0.mk (fun W => file_c n hn W)
  have HR := Aside0.mk (fun W => rank_c n hn W)
  have HV := Aside0.mk (fun W => vkind_c x hx W)
  have HK := Aside0.mk (fun W => kind_c x hx W)
  have HS := Aside0.mk (fun W => side_c x hx W)
  rcases side_opts x with hs | hs | hs
  · rw [pieceV_none (by omega)]
    rw [hs] at HS
    have hf0 : ((n % 9 : Nat) : Int) ≤ 8 := by omega
    have hr0 : ((n / 9 : Nat) : Int) ≤ 9 := by omega
    go_enter Tryz.func106, Tryz.ntmps106
    go_wp2_with (first | (go_at_call 105; refine (HS.out _).mono ?_; rintro e w' ⟨rfl, rfl⟩) | (go_at_call 98; refine (HF.out _).mono ?_; rintro e w' ⟨rfl, rfl⟩) | (go_at_call 134; refine (HR.out _).mono ?_; rintro e w' ⟨rfl, rfl⟩))
    go_ret
    exact ⟨rfl, by (repeat' (first | (with_reducible exact Below.refl _ _) | (with_reducible refine pw_below_drewN ?_ _) | (with_reducible refine below_alloc ?_ _) | (with_reducible refine Below.drew ?_) | (with_reducible refine Below.setCell ?_ ?_ _) | (simp; done)))⟩
  all_goals
    have HO := Aside0.mk (fun W => Over_c (n : Int) (sideN x) W)
    have hov : overS (n : Int) (sideN x) = overN n (sideN x) := by unfold overS; rw [decide_eq_true (by omega), Bool.true_and, Int.toNat_natCast]
    rw [pieceV_side (by omega)]
    rw [hov] at HO
    rw [hs] at HS HO ⊢
    have hkv := kindV_le (kindN x)
    have HX := Aside0.mk hs
    have hf0 : ((n % 9 : Nat) : Int) ≤ 8 := by omega
    have hr0 : ((n / 9 : Nat) : Int) ≤ 9 := by omega
    unfold asideN rankN
    rw [hs]
    generalize overN n _ = ov at *
    generalize kindV (kindN x) = kv at *
    rcases kindN_opts ⟨x, hx⟩ with h | h | h | h | h | h | h | h
    all_goals
      simp only at h
      simp only [h] at HK ⊢
      have HH := Aside0.mk h
      generalize n % 9 = f at *
      generalize n / 9 = r at *
      clear h hs hov
      cases ov
      all_goals
        go_enter Tryz.func106, Tryz.ntmps106
        go_wp2_with (first | (go_at_call 105; refine (HS.out _).mono ?_; rintro e w' ⟨rfl, rfl⟩) | (go_at_call 98; refine (HF.out _).mono ?_; rintro e w' ⟨rfl, rfl⟩) | (go_at_call 134; refine (HR.out _).mono ?_; rintro e w' ⟨rfl, rfl⟩) | (go_at_call 96; refine (HK.out _).mono ?_; rintro e w' ⟨rfl, rfl⟩) | (go_at_call 72; refine (HV.out _).mono ?_; rintro e w' ⟨rfl, hb⟩) | (go_at_call 142; refine (HO.out _).mono ?_; rintro e w' ⟨rfl, hb2⟩))
        all_goals
          go_ret
          refine ⟨ret_int ?_, ?_⟩
          · first | (simp; done) | (simp; omega) | omega
          · first | exact hb | exact below_go hb hb2
end Go.Proofs.YtafmapadkpjliaaGreatDoor.K

/- slices.SortStableFunc at []api.Move, of at most twenty: what lies there then is what lay there, in some order. -/
namespace Go.Proofs.YtafmapadkpjliaaGreatDoor.K
open Go.RowKit Go.Lib Go.Proofs.YtafmapadkpjliaaGreatDoorW.PrintWords Go.Proofs.YtafmapadkpjliaaGreatDoorW.PrintLast Go.Proofs.YtafmapadkpjliaaGreatDoorW.PrintMore
set_option linter.unusedVariables false
set_option linter.unusedSimpArgs false
/-- What a function value owes that holds two of a list's moves against one another. -/
def CmpM (g : Nat) (lb : Array Value) (cf : Mv → Mv → Int) (xs : List Mv) (b : Nat) (w : World) : Prop :=
  ∀ (W : World) (x y : Mv), x ∈ xs → y ∈ xs → KeepBut w W b none → Calls Tryz.prog g (#[mvV x, mvV y] ++ lb) W fun e W' => e = .returned (.int .i64 (cf x y)) ∧ Below W.heap.size W W'
/-- The row: the same moves, in some order. -/
structure PermAt (base b cap : Nat) (xs : List Mv) (B0 : Nat) (w W : World) (cur : List Mv) : Prop where
  pm : cur.Perm xs
  own : W.ownsRow base 36 2 (.slice (some ⟨b, 0, none⟩) xs.length cap) xs.length (flatM cur)
  keep : KeepBut w W b none
  bel : Below B0 w W
  hb : B0 ≤ b
  hz : B0 ≤ w.heap.size
section
variable {base b cap B0 : Nat} {xs cur : List Mv} {w W W' : World}
theorem PermAt.len (h : PermAt base b cap xs B0 w W cur) : cur.length = xs.length := h.pm.length_eq
theorem PermAt.below (h : PermAt base b cap xs B0 w W cur) (hb : Below W.heap.size W W') : PermAt base b cap xs B0 w W' cur :=
  ⟨h.pm, pw_own_below h.own hb, keep_then_below h.keep hb, below_then h.bel (Nat.le_trans h.hz h.bel.size) hb, h.hb, h.hz⟩
theorem PermAt.drew (h : PermAt base b cap xs B0 w W cur) : PermAt base b cap xs B0 w W.drew cur := h.below (pw_below_drewN (Below.refl _ _) 1)
theorem PermAt.ownc (h : PermAt base b cap xs B0 w W cur) : W.ownsRow base 36 2 (.slice (some ⟨b, 0, none⟩) cur.length cap) cur.length (flatM cur) := by rw [h.len]; exact h.own
theorem PermAt.cells (h : PermAt base b cap xs B0 w W cur) (i : Nat) (hi : i < xs.length) : W.cell? ⟨b, i * 2, none⟩ = some (.int .i64 ((cur.getD i (0, 0)).1 : Int)) ∧ W.cell? ⟨b, i * 2 + 1, none⟩ = some (.int .i64 ((cur.getD i (0, 0)).2 : Int)) :=
  OwnM.cellsAt h.own i (by rw [h.len]; exact hi)
theorem PermAt.free (h : PermAt base b cap xs B0 w W cur) (i : Nat) : W.frozen? ⟨b, i, none⟩ = false := OwnM.free h.own i
theorem PermAt.mem (h : PermAt base b cap xs B0 w W cur) (i : Nat) (hi : i < xs.length) : cur.getD i (0, 0) ∈ xs := by
  have hl := h.len
  rw [List.getD_eq_getElem?_getD, List.getElem?_eq_getElem (by omega)]
  exact h.pm.subset (List.getElem_mem _)
theorem swap_perm {l : List Mv} {i j : Nat} (hi : i < l.length) (hj : j < l.length) : ((l.set i (l.getD j (0, 0))).set j (l.getD i (0, 0))).Perm l := by
  rw [List.getD_eq_getElem?_getD, List.getD_eq_getElem?_getD, List.getElem?_eq_getElem hi, List.getElem?_eq_getElem hj]
  exact List.set_set_perm hi hj
/-- Two of them change places. -/
theorem PermAt.swap (h : PermAt base b cap xs B0 w W cur) {i j : Nat} (hi : i < xs.length) (hj : j < xs.length) {x y : Mv} (hx : cur.getD i (0, 0) = x) (hy : cur.getD j (0, 0) = y) :
    PermAt base b cap xs B0 w ((((W.setCell ⟨b, i * 2, none⟩ (.int .i64 (y.1 : Int))).setCell ⟨b, i * 2 + 1, none⟩ (.int .i64 (y.2 : Int))).setCell ⟨b, j * 2, none⟩ (.int .i64 (x.1 : Int))).setCell ⟨b, j * 2 + 1, none⟩ (.int .i64 (x.2 : Int))) ((cur.set i y).set j x) := by
  have hl := h.len
  refine ⟨?_, ?_, ?_, ?_, h.hb, h.hz⟩
  · rw [← hx, ← hy]
    exact (swap_perm (by omega) (by omega)).trans h.pm
  · exact OwnM.put (OwnM.put h.own i y) j x
  · exact (((h.keep.set_ (i * 2) _).set_ (i * 2 + 1) _).set_ (j * 2) _).set_ (j * 2 + 1) _
  · exact (((h.bel.setCell (p := ⟨b, i * 2, none⟩) h.hb _).setCell (p := ⟨b, i * 2 + 1, none⟩) h.hb _).setCell (p := ⟨b, j * 2, none⟩) h.hb _).setCell (p := ⟨b, j * 2 + 1, none⟩) h.hb _
end
end Go.Proofs.YtafmapadkpjliaaGreatDoor.K

/- quiet: the closures of captures. -/
namespace Go.Proofs.YtafmapadkpjliaaGreatDoor.K
open Go.RowKit Go.Lib Go.Proofs.YtafmapadkpjliaaGreatDoorW.PrintWords Go.Proofs.YtafmapadkpjliaaGreatDoor.Sp
set_option linter.unusedVariables false
set_option linter.unusedSimpArgs false
theorem at_cel {s : ByteArray} (hb : isBoard s = true) {n : Nat} (hn : n < 90) : atS s (n : Int) = cel s n := by
  unfold atS; rw [if_pos ⟨hb, by omega, by omega⟩, Int.toNat_natCast]
set_option maxRecDepth 100000 in
set_option maxHeartbeats 2000000 in
theorem qcap1_c (p : Pos) (B : Nat) (m : Mv) (hbd : isBoard p.cells = true) (hm : m.2 < 90) (w : World) (hx : BoxP w B p) : Calls Tryz.prog 140 #[mvV m, .pointer (some ⟨B, 0, none⟩)] w fun e w' => e = .returned (.bool (cel p.cells m.2 == 46)) ∧ Below w.heap.size w w' := by
  have HS := fun W => at_c p.cells (m.2 : Int) W
  simp only [at_cel hbd hm] at HS
  have HS := Aside0.mk HS
  have HB := Aside0.mk (hx.below (below_alloc (Below.refl _ _) (.cells #[.int .i64 (m.1 : Int), .int .i64 (m.2 : Int)] 36)))
  have hu := Tryz.underlying23
  have hu2 := Tryz.underlying36
  have hq : (((cel p.cells m.2 : Nat) : Int) == 46) = (cel p.cells m.2 == 46) := by rw [Bool.eq_iff_iff, beq_iff_eq, beq_iff_eq]; omega
  generalize cel p.cells m.2 = c at *
  obtain ⟨c0, c1, c2, c3⟩ := HB.out
  have hne : w.heap.size ≠ B := World.new_ne w _ hx.c0
  clear hx hbd hm
  go_enter Tryz.func140, Tryz.ntmps140
  go_wp2_with (go_at_call 73; refine (HS.out _).mono ?_; rintro e w2 ⟨rfl, hb⟩; have HC := Aside0.mk (below_go (below_alloc (Below.refl _ _) _) hb); clear hb)
  go_ret
  exact ⟨rfl, HC.out⟩
def capI (p : Pos) (x y : Mv) : Int := Lib.compareInt (kindV (kindN (cel p.cells y.2))) (kindV (kindN (cel p.cells x.2)))
set_option maxRecDepth 100000 in
set_option maxHeartbeats 4000000 in
theorem qcap2_c (p : Pos) (B : Nat) (x y : Mv) (hbd : isBoard p.cells = true) (hx2 : x.2 < 90) (hy2 : y.2 < 90) (w : World) (hx : BoxP w B p) : Calls Tryz.prog 141 #[mvV x, mvV y, .pointer (some ⟨B, 0, none⟩)] w fun e w' => e = .returned (.int .i64 (capI p x y)) ∧ Below w.heap.size w w' := by
  have HS1 := fun W => at_c p.cells (x.2 : Int) W
  have HS2 := fun W => at_c p.cells (y.2 : Int) W
  simp only [at_cel hbd hx2] at HS1
  simp only [at_cel hbd hy2] at HS2
  have HS1 := Aside0.mk HS1
  have HS2 := Aside0.mk HS2
  have HK1 := Aside0.mk (fun W => vkind_c (cel p.cells x.2) (cel_lt _ _) W)
  have HK2 := Aside0.mk (fun W => vkind_c (cel p.cells y.2) (cel_lt _ _) W)
  have HB := Aside0.mk (hx.below (below_alloc (below_alloc (Below.refl _ _) (.cells #[.int .i64 (x.1 : Int), .int .i64 (x.2 : Int)] 36)) (.cells #[.int .i64 (y.1 : Int), .int .i64 (y.2 : Int)] 36)))
  have hu := Tryz.underlying23
  have hu2 := Tryz.underlying36
  have HE := Aside0.mk (show capI p x y = Lib.compareInt (kindV (kindN (cel p.cells y.2))) (kindV (kindN (cel p.cells x.2))) from rfl)
  generalize capI p x y = r at *
  generalize kindV (kindN (cel p.cells x.2)) = kx at *
  generalize kindV (kindN (cel p.cells y.2)) = ky at *
  generalize cel p.cells x.2 = cx at *
  generalize cel p.cells y.2 = cy at *
  obtain ⟨c0, c1, c2, c3⟩ := HB.out
  have hne : w.heap.size ≠ B := World.new_ne w _ hx.c0
  clear hx hbd hx2 hy2
  go_enter Tryz.func141, Tryz.ntmps141
  go_upto_region 1 with fail
  have HL := Aside0.mk (below_alloc (below_alloc (Below.refl w.heap.size w) (.cells #[.int .i64 (x.1 : Int), .int .i64 (x.2 : Int)] 36)) (.cells #[.int .i64 (y.1 : Int), .int .i64 (y.2 : Int)] 36))
  have a1 : ((w.alloc (.cells #[.int .i64 (x.1 : Int), .int .i64 (x.2 : Int)] 36)).alloc (.cells #[.int .i64 (y.1 : Int), .int .i64 (y.2 : Int)] 36)).cell? ⟨w.heap.size, 1, none⟩ = some (.int .i64 (x.2 : Int)) := by simp [World.cell?_alloc_at, World.cell?_alloc_past]
  have b1 : ((w.alloc (.cells #[.int .i64 (x.1 : Int), .int .i64 (x.2 : Int)] 36)).alloc (.cells #[.int .i64 (y.1 : Int), .int .i64 (y.2 : Int)] 36)).cell? ⟨w.heap.size + 1, 1, none⟩ = some (.int .i64 (y.2 : Int)) := by simp [World.cell?_alloc_at]
  clear c0 c1 c2 c3 hne
  generalize (w.alloc (.cells #[.int .i64 (x.1 : Int), .int .i64 (x.2 : Int)] 36)).alloc (.cells #[.int .i64 (y.1 : Int), .int .i64 (y.2 : Int)] 36) = W1 at *
  have HA := Aside0.mk (And.intro a1 b1)
  clear a1 b1
  have c0 := fun q : BelowOf W1 => q.cell HB.out.c0
  have a1 := fun q : BelowOf W1 => q.cell HA.out.1
  have b1 := fun q : BelowOf W1 => q.cell HA.out.2
  refine wp_region_below (by kernel_rfl) ?_
  repeat (quiet_step (first
    | (go_at_call 73; first | (with_reducible exact BelowOf.calls (HS1.out _)) | (with_reducible exact BelowOf.calls (HS2.out _)))
    | (go_at_call 72; first | (with_reducible exact BelowOf.calls (HK1.out _)) | (with_reducible exact BelowOf.calls (HK2.out _)))
    | (go_at_call 76; exact BelowOf.same (Tryz.cmp_Compare_int _ _ _))))
  refine wpQuiet_nil ?_
  rintro w2 ⟨⟨_, hb⟩, rfl⟩
  have HR := Aside0.mk (below_go HL.out hb)
  clear hb c0 a1 b1
  go_wp2_with fail
  go_ret
  exact ⟨ret_int (by rw [HE.out]), HR.out⟩
end Go.Proofs.YtafmapadkpjliaaGreatDoor.K

/- slices.SortStableFunc at []api.Move: insertion sort; at most twenty. -/
namespace Go.Proofs.YtafmapadkpjliaaGreatDoor.K
open Go.RowKit Go.Lib Go.Proofs.YtafmapadkpjliaaGreatDoorW.PrintWords Go.Proofs.YtafmapadkpjliaaGreatDoorW.PrintLast Go.Proofs.YtafmapadkpjliaaGreatDoorW.PrintMore
set_option linter.unusedVariables false
set_option linter.unusedSimpArgs false
set_option maxRecDepth 100000 in
set_option maxHeartbeats 4000000 in
theorem ins_M (g : Nat) (lb : Array Value) (cf : Mv → Mv → Int) (eg : ∀ args w, (callFunc g args).run Tryz.prog w = .ok (.enter g args) w) (base b cap a n : Nat) (xs : List Mv) (B0 : Nat) (w W : World) (cur0 : List Mv)
    (hc : CmpM g lb cf xs b w) (hP : PermAt base b cap xs B0 w W cur0) (hn : n ≤ xs.length) (hlen : xs.length ≤ 1000000) (han : a ≤ 1000000) :
    Calls Tryz.prog 144 #[.slice (some ⟨b, 0, none⟩) xs.length cap, .int .i64 a, .int .i64 n, .func (.func g) #[] lb] W fun e w' => e = .returned (.tuple #[]) ∧ ∃ cur, PermAt base b cap xs B0 w w' cur := by
  have HC := Aside0.mk hc
  have HP0 := Aside0.mk hP
  have hu2 := Tryz.underlying36
  clear hc hP
  go_enter Tryz.func144, Tryz.ntmps144
  go_wp2
  go_loopg [8] (n - a) (fun g1 vi wr => ∃ (i : Nat) (cur : List Mv), vi = .int .i64 i ∧ a < i ∧ i ≤ max (a + 1) n ∧ n - i ≤ g1 ∧ Aside0 (PermAt base b cap xs B0 w wr cur))
  case atStart => exact ⟨a + 1, cur0, by go_num, by omega, by omega, by omega, HP0⟩
  case round =>
    obtain ⟨i, cur, rfl, hai, hib, hg1, HP⟩ := hrel
    clear HP0
    by_cases hlt : i < n
    · have hltz : (i : Int) < (n : Int) := by omega
      go_wp2
      go_loopg [9] i (fun g2 vj wr2 => ∃ (j : Nat) (cj : List Mv), vj = .int .i64 j ∧ j ≤ i ∧ a ≤ j ∧ j ≤ g2 ∧ Aside0 (PermAt base b cap xs B0 w wr2 cj))
      case atStart => exact ⟨i, cur, rfl, Nat.le_refl _, Nat.le_of_lt hai, Nat.le_refl _, HP⟩
      case round =>
        clear HP
        obtain ⟨j, cj, rfl, hji, haj, hg2, HJ⟩ := hrel
        by_cases hja : a < j
        · obtain ⟨k, rfl⟩ : ∃ k, j = k + 1 := ⟨j - 1, by omega⟩
          have hjaz : (a : Int) < (k : Int) + 1 := by omega
          have hwk : IntKind.i64.wrap (k : Int) = (k : Int) := by rw [IntKind.wrap_i64]; omega
          have jz : (k : Int) + 1 < (xs.length : Int) := by omega
          have jz1 : (k : Int) < (xs.length : Int) := by omega
          have jz2 : (0 : Int) ≤ (k : Int) + 1 := by omega
          have e0 : ((k : Int) + 1).toNat = k + 1 := by omega
          obtain ⟨p0, p1⟩ := HJ.out.cells (k + 1) (by omega)
          obtain ⟨q0, q1⟩ := HJ.out.cells k (by omega)
          have hmx := HJ.out.mem (k + 1) (by omega)
          have hmy := HJ.out.mem k (by omega)
          obtain ⟨x, HX⟩ : ∃ x, Hid (cj.getD (k + 1) (0, 0) = x) := ⟨_, rfl⟩
          obtain ⟨y, HY⟩ : ∃ y, Hid (cj.getD k (0, 0) = y) := ⟨_, rfl⟩
          rw [HX.out] at p0 p1 hmx
          rw [HY.out] at q0 q1 hmy
          obtain ⟨xa, xb⟩ := x
          obtain ⟨ya, yb⟩ := y
          simp only at p0 p1 q0 q1
          have HCC := Aside0.mk (fun q : BelowOf wr => HC.out q.W (xa, xb) (ya, yb) hmx hmy (keep_then_below HJ.out.keep q.bel))
          have HPQ := Aside0.mk (And.intro (And.intro p0 p1) (And.intro q0 q1))
          clear p0 p1 q0 q1 hmx hmy
          have p0 := fun q : BelowOf wr => q.cell HPQ.out.1.1
          have p1 := fun q : BelowOf wr => q.cell HPQ.out.1.2
          have q0 := fun q : BelowOf wr => q.cell HPQ.out.2.1
          have q1 := fun q : BelowOf wr => q.cell HPQ.out.2.2
          by_cases hlv : cf (xa, xb) (ya, yb) < 0
          · go_wp2_with fail
            refine wp_region_below (by kernel_rfl) ?_
            repeat (quiet_step ((go_at_fn g; exact BelowOf.calls (HCC.out _))))
            refine wpQuiet_nil ?_
            rintro w2 ⟨⟨_, hb⟩, rfl⟩
            have HJ2 := Aside0.mk (HJ.out.below hb)
            clear p0 p1 q0 q1 hb HPQ HCC HJ
            obtain ⟨p0, p1⟩ := HJ2.out.cells (k + 1) (by omega)
            obtain ⟨q0, q1⟩ := HJ2.out.cells k (by omega)
            rw [HX.out] at p0 p1
            rw [HY.out] at q0 q1
            have fr := HJ2.out.free
            simp only at p0 p1 q0 q1
            go_wp2_with fail
            go_region
            all_goals
              go_wp2_with fail
              go_roundg k
              case measure => omega
              case rel => exact ⟨k, _, rfl, by omega, by omega, Nat.le_refl _, ⟨(HJ2.out.swap (by omega) (by omega) HX.out HY.out).drew⟩⟩
          · go_wp2_with fail
            refine wp_region_below (by kernel_rfl) ?_
            repeat (quiet_step ((go_at_fn g; exact BelowOf.calls (HCC.out _))))
            refine wpQuiet_nil ?_
            rintro w2 ⟨⟨_, hb⟩, rfl⟩
            have HJ2 := Aside0.mk (HJ.out.below hb)
            clear p0 p1 q0 q1 hb HPQ HCC HJ
            go_wp2_with fail
            go_roundg (n - (i + 1))
            case measure => omega
            case rel => exact ⟨i + 1, cj, by go_num, by omega, by omega, Nat.le_refl _, HJ2⟩
        · have hjaz : ¬ (a : Int) < (j : Int) := by omega
          clear hji hg2 haj
          go_wp2_with fail
          go_region
          all_goals
            go_wp2_with fail
            go_roundg (n - (i + 1))
            case measure => omega
            case rel => exact ⟨i + 1, cj, by go_num, by omega, by omega, Nat.le_refl _, ⟨HJ.out.drew⟩⟩
    · have hltz : ¬ (i : Int) < (n : Int) := by omega
      go_wp2
      go_end0
      exact ⟨rfl, cur, HP.out⟩
end Go.Proofs.YtafmapadkpjliaaGreatDoor.K

/- slices.SortStableFunc at []api.Move: what it turns round. -/
namespace Go.Proofs.YtafmapadkpjliaaGreatDoor.K
open Go.RowKit Go.Lib Go.Proofs.YtafmapadkpjliaaGreatDoorW.PrintWords Go.Proofs.YtafmapadkpjliaaGreatDoorW.PrintLast Go.Proofs.YtafmapadkpjliaaGreatDoorW.PrintMore
set_option linter.unusedVariables false
set_option linter.unusedSimpArgs false
set_option maxRecDepth 100000 in
set_option maxHeartbeats 4000000 in
theorem swapR_M (fv : Value) (base b cap a c n : Nat) (xs : List Mv) (B0 : Nat) (w W : World) (cur0 : List Mv) (hP : PermAt base b cap xs B0 w W cur0) (ha : a + n ≤ xs.length) (hc : c + n ≤ xs.length) (hlen : xs.length ≤ 1000000) (hac : a ≠ c) :
    Calls Tryz.prog 176 #[.slice (some ⟨b, 0, none⟩) xs.length cap, .int .i64 (a : Int), .int .i64 (c : Int), .int .i64 (n : Int), fv] W fun e w' => e = .returned (.tuple #[]) ∧ ∃ cur, PermAt base b cap xs B0 w w' cur := by
  have HP0 := Aside0.mk hP
  have hu2 := Tryz.underlying36
  clear hP
  go_enter Tryz.func176, Tryz.ntmps176
  go_wp2
  go_loopg [10] n (fun gg s10 wr => ∃ (i : Nat) (cur : List Mv), s10 = .int .i64 (i : Int) ∧ i + gg = n ∧ Aside0 (PermAt base b cap xs B0 w wr cur))
  case atStart => exact ⟨0, cur0, rfl, by omega, HP0⟩
  case round =>
    clear HP0
    obtain ⟨i, cur, rfl, hi, HP⟩ := hrel
    cases gk with
    | zero =>
      have hn : ¬ (i : Int) < (n : Int) := by omega
      go_wp2
      go_end0
      exact ⟨rfl, cur, HP.out⟩
    | succ g =>
      have hn : (i : Int) < (n : Int) := by omega
      have HIN := Aside0.mk (show i + 1 + g = n by omega)
      obtain ⟨p, hp⟩ : ∃ p, a + i = p := ⟨_, rfl⟩
      obtain ⟨q, hq⟩ : ∃ q, c + i = q := ⟨_, rfl⟩
      have wa : (a : Int) + (i : Int) = (p : Int) := by omega
      have wc : (c : Int) + (i : Int) = (q : Int) := by omega
      have hpl : p < xs.length := by omega
      have hql : q < xs.length := by omega
      have ja : (p : Int) < (xs.length : Int) := by omega
      have jc : (q : Int) < (xs.length : Int) := by omega
      have n1 : ¬ p = q := by omega
      have n2 : ¬ q = p := by omega
      have n3 : ¬ p * 2 = q * 2 + 1 := by omega
      have n4 : ¬ p * 2 + 1 = q * 2 := by omega
      have n5 : ¬ q * 2 = p * 2 + 1 := by omega
      have n6 : ¬ q * 2 + 1 = p * 2 := by omega
      have hib : (i : Int) ≤ 1000000 := by omega
      obtain ⟨p0, p1⟩ := HP.out.cells p hpl
      obtain ⟨q0, q1⟩ := HP.out.cells q hql
      obtain ⟨x, HX⟩ : ∃ x, Hid (cur.getD p (0, 0) = x) := ⟨_, rfl⟩
      obtain ⟨y, HY⟩ : ∃ y, Hid (cur.getD q (0, 0) = y) := ⟨_, rfl⟩
      rw [HX.out] at p0 p1
      rw [HY.out] at q0 q1
      have fr := HP.out.free
      have HAI := Aside0.mk (And.intro hpl hql)
      clear hi ha hc hp hq hpl hql hac
      go_wp2_with fail
      go_region
      all_goals
        go_wp2_with fail
        go_roundg g
        case measure => omega
        case rel => exact ⟨i + 1, _, by go_num, HIN.out, ⟨(HP.out.swap HAI.out.1 HAI.out.2 HX.out HY.out).drew⟩⟩
set_option maxRecDepth 100000 in
set_option maxHeartbeats 4000000 in
theorem rot_M (fv : Value) (base b cap a m c : Nat) (xs : List Mv) (B0 : Nat) (w W : World) (cur0 : List Mv) (hP : PermAt base b cap xs B0 w W cur0) (ham : a < m) (hmc : m < c) (hc : c ≤ xs.length) (hlen : xs.length ≤ 1000000) :
    Calls Tryz.prog 162 #[.slice (some ⟨b, 0, none⟩) xs.length cap, .int .i64 (a : Int), .int .i64 (m : Int), .int .i64 (c : Int), fv] W fun e w' => e = .returned (.tuple #[]) ∧ ∃ cur, PermAt base b cap xs B0 w w' cur := by
  have HP0 := Aside0.mk hP
  have HS := Aside0.mk (fun (x y n : Nat) (xi yi ni : Int) (hx : xi = (x : Int)) (hy : yi = (y : Int)) (hn : ni = (n : Int)) (W : World) (cur : List Mv) (h : PermAt base b cap xs B0 w W cur) (h1 : x + n ≤ xs.length) (h2 : y + n ≤ xs.length) (h3 : x ≠ y) => show Calls Tryz.prog 176 #[.slice (some ⟨b, 0, none⟩) xs.length cap, .int .i64 xi, .int .i64 yi, .int .i64 ni, fv] W fun e w' => e = .returned (.tuple #[]) ∧ ∃ cur, PermAt base b cap xs B0 w w' cur by subst hx hy hn; exact swapR_M fv base b cap x y n xs B0 w W cur h h1 h2 hlen h3)
  clear hP
  go_enter Tryz.func162, Tryz.ntmps162
  go_wp2
  go_loopg [10, 11] (c - a) (fun gg s10 s11 wr => ∃ (i j : Nat) (cur : List Mv), s10 = .int .i64 (i : Int) ∧ s11 = .int .i64 (j : Int) ∧ 0 < i ∧ 0 < j ∧ i ≤ m - a ∧ j ≤ c - m ∧ i + j ≤ gg ∧ Aside0 (PermAt base b cap xs B0 w wr cur))
  case atStart => exact ⟨m - a, c - m, cur0, by go_num, by go_num, by omega, by omega, Nat.le_refl _, Nat.le_refl _, by omega, HP0⟩
  case round =>
    clear HP0
    obtain ⟨i, j, cur, rfl, rfl, hi0, hj0, hi, hj, hg, HP⟩ := hrel
    have hni : i ≤ m := by omega
    rcases Nat.lt_trichotomy i j with hij | hij | hij
    · have h1 : ((i : Int) != (j : Int)) = true := by simp; omega
      have h2 : ¬ (j : Int) < (i : Int) := by omega
      go_wp2_with fail
      refine (HS.out (m - i) (m + j - i) i _ _ _ (by go_num) (by go_num) rfl _ _ HP.out (by omega) (by omega) (by omega)).mono ?_
      rintro e w2 ⟨rfl, cur2, h⟩
      have HP2 := Aside0.mk h
      clear h
      go_wp2_with fail
      go_roundg (i + (j - i))
      case measure => omega
      case rel => exact ⟨i, j - i, cur2, rfl, by go_num, hi0, by omega, hi, by omega, Nat.le_refl _, HP2⟩
    · subst hij
      have h1 : ((i : Int) != (i : Int)) = false := by simp
      go_wp2_with fail
      refine (HS.out (m - i) m i _ _ _ (by go_num) rfl rfl _ _ HP.out (by omega) (by omega) (by omega)).mono ?_
      rintro e w2 ⟨rfl, cur2, h⟩
      have HP2 := Aside0.mk h
      clear h
      go_wp2_with fail
      go_end0
      exact ⟨rfl, cur2, HP2.out⟩
    · have h1 : ((i : Int) != (j : Int)) = true := by simp; omega
      have h2 : (j : Int) < (i : Int) := by omega
      go_wp2_with fail
      refine (HS.out (m - i) m j _ _ _ (by go_num) rfl rfl _ _ HP.out (by omega) (by omega) (by omega)).mono ?_
      rintro e w2 ⟨rfl, cur2, h⟩
      have HP2 := Aside0.mk h
      clear h
      go_wp2_with fail
      go_roundg (i - j + j)
      case measure => omega
      case rel => exact ⟨i - j, j, cur2, by go_num, rfl, by omega, hj0, by omega, hj, Nat.le_refl _, HP2⟩
end Go.Proofs.YtafmapadkpjliaaGreatDoor.K

/- slices.SortStableFunc at []api.Move: two sorted parts are merged in place. -/
namespace Go.Proofs.YtafmapadkpjliaaGreatDoor.K
open Go.RowKit Go.Lib Go.Proofs.YtafmapadkpjliaaGreatDoorW.PrintWords Go.Proofs.YtafmapadkpjliaaGreatDoorW.PrintLast Go.Proofs.YtafmapadkpjliaaGreatDoorW.PrintMore
set_option linter.unusedVariables false
set_option linter.unusedSimpArgs false
def SymIs (g : Nat) (lb : Array Value) (base b cap a m c : Nat) (xs : List Mv) (B0 : Nat) (w W : World) : Prop :=
  Calls Tryz.prog 145 #[.slice (some ⟨b, 0, none⟩) xs.length cap, .int .i64 (a : Int), .int .i64 (m : Int), .int .i64 (c : Int), .func (.func g) #[] lb] W fun e w' => e = .returned (.tuple #[]) ∧ ∃ cur, PermAt base b cap xs B0 w w' cur
set_option maxRecDepth 100000 in
set_option maxHeartbeats 4000000 in
theorem sym1_M (g : Nat) (lb : Array Value) (cf : Mv → Mv → Int) (eg : ∀ args w, (callFunc g args).run Tryz.prog w = .ok (.enter g args) w) (base b cap a m c : Nat) (xs : List Mv) (B0 : Nat) (w W : World) (cur0 : List Mv)
    (hcm : CmpM g lb cf xs b w) (hP : PermAt base b cap xs B0 w W cur0) (ham : m = a + 1) (hmc : m < c) (hc : c ≤ xs.length) (hlen : xs.length ≤ 1000000) : SymIs g lb base b cap a m c xs B0 w W := by
  unfold SymIs
  subst ham
  have HC := Aside0.mk hcm
  have HP0 := Aside0.mk hP
  have hu2 := Tryz.underlying36
  clear hcm hP
  have w1 : IntKind.i64.wrap ((a : Int) + 1 - (a : Int)) = 1 := by rw [IntKind.wrap_i64]; omega
  have w2 : (a : Int) + 1 - (a : Int) = 1 := by omega
  rw [show ((a + 1 : Nat) : Int) = (a : Int) + 1 by omega]
  go_enter Tryz.func145, Tryz.ntmps145
  go_wp2
  go_loopg [10, 11, 12] (c - (a + 1)) (fun gg s10 s11 _ wr => ∃ (i j : Nat) (cur : List Mv), s10 = .int .i64 (i : Int) ∧ s11 = .int .i64 (j : Int) ∧ a + 1 ≤ i ∧ i ≤ j ∧ j ≤ c ∧ j - i ≤ gg ∧ Aside0 (PermAt base b cap xs B0 w wr cur))
  case atStart => exact ⟨a + 1, c, cur0, by go_num, rfl, Nat.le_refl _, by omega, Nat.le_refl _, Nat.le_refl _, HP0⟩
  case round =>
    clear HP0
    obtain ⟨i, j, cur, rfl, rfl, hai, hij, hjc, hg, HP⟩ := hrel
    by_cases hlt : i < j
    · have hltz : (i : Int) < (j : Int) := by omega
      obtain ⟨h, hh⟩ : ∃ h, (i + j) / 2 = h := ⟨_, rfl⟩
      have hdv : ((i : Int) + (j : Int)) / 2 = (h : Int) := by omega
      have HH := Aside0.mk (show i ≤ h ∧ h < j by omega)
      have hhl : (h : Int) < (xs.length : Int) := by have := HH.out; omega
      have hal : (a : Int) < (xs.length : Int) := by omega
      obtain ⟨p0, p1⟩ := HP.out.cells h (by have := HH.out; omega)
      obtain ⟨q0, q1⟩ := HP.out.cells a (by omega)
      have hmx := HP.out.mem h (by have := HH.out; omega)
      have hmy := HP.out.mem a (by omega)
      generalize cur.getD h (0, 0) = x at *
      generalize cur.getD a (0, 0) = y at *
      obtain ⟨xa, xb⟩ := x
      obtain ⟨ya, yb⟩ := y
      simp only at p0 p1 q0 q1
      have HCC := Aside0.mk (fun q : BelowOf wr => HC.out q.W (xa, xb) (ya, yb) hmx hmy (keep_then_below HP.out.keep q.bel))
      have HPQ := Aside0.mk (And.intro (And.intro p0 p1) (And.intro q0 q1))
      have HIJ := Aside0.mk (And.intro hai (And.intro hij (And.intro hjc hg)))
      clear p0 p1 q0 q1 hmx hmy hh hai hij hjc hg hlt
      have p0 := fun q : BelowOf wr => q.cell HPQ.out.1.1
      have p1 := fun q : BelowOf wr => q.cell HPQ.out.1.2
      have q0 := fun q : BelowOf wr => q.cell HPQ.out.2.1
      have q1 := fun q : BelowOf wr => q.cell HPQ.out.2.2
      by_cases hlv : cf (xa, xb) (ya, yb) < 0
      all_goals
        go_wp2_with fail
        refine wp_region_below (by kernel_rfl) ?_
        repeat (quiet_step ((go_at_fn g; exact BelowOf.calls (HCC.out _))))
        refine wpQuiet_nil ?_
        rintro w2 ⟨⟨_, hb⟩, rfl⟩
        have HP2 := Aside0.mk (HP.out.below hb)
        clear p0 p1 q0 q1 hb HPQ HCC HP
        go_wp2_with fail
      · go_roundg (j - (h + 1))
        case measure => have := HH.out; have := HIJ.out; omega
        case rel => exact ⟨h + 1, j, cur, by go_num, rfl, by have := HH.out; have := HIJ.out; omega, by have := HH.out; omega, HIJ.out.2.2.1, Nat.le_refl _, HP2⟩
      · go_roundg (h - i)
        case measure => have := HH.out; have := HIJ.out; omega
        case rel => exact ⟨i, h, cur, rfl, rfl, HIJ.out.1, HH.out.1, by have := HH.out; have := HIJ.out; omega, Nat.le_refl _, HP2⟩
    · have hltz : ¬ (i : Int) < (j : Int) := by omega
      have hic : i ≤ c := by omega
      have wi : IntKind.i64.wrap ((i : Int) - 1) = (i : Int) - 1 := by rw [IntKind.wrap_i64]; omega
      have HIJ := Aside0.mk (And.intro hai hic)
      clear hlt hij hjc hg
      go_wp2_with fail
      go_loopg [13] (i - 1 - a) (fun gg s13 wr => ∃ (k : Nat) (cur : List Mv), s13 = .int .i64 (k : Int) ∧ a ≤ k ∧ k ≤ i - 1 ∧ k + gg = i - 1 ∧ Aside0 (PermAt base b cap xs B0 w wr cur))
      case atStart => exact ⟨a, cur, rfl, Nat.le_refl _, by omega, by omega, HP⟩
      case round =>
        clear HP
        obtain ⟨k, cur, rfl, hak, hki, hg, HP⟩ := hrel
        cases gk with
        | zero =>
          have hn : ¬ (k : Int) < (i : Int) - 1 := by omega
          go_wp2_with fail
          (try simp only [Exit.inBlock, Exit.then])
          refine bodyPost_ret (results_none rfl _ _ _) rfl ?_
          exact ⟨rfl, cur, HP.out⟩
        | succ g2 =>
          have hn : (k : Int) < (i : Int) - 1 := by omega
          have HG2 := Aside0.mk (show k + 1 + g2 = i - 1 by omega)
          have ja : (k : Int) < (xs.length : Int) := by omega
          have jc : (k : Int) + 1 < (xs.length : Int) := by omega
          obtain ⟨p0, p1⟩ := HP.out.cells k (by omega)
          obtain ⟨q0, q1⟩ := HP.out.cells (k + 1) (by omega)
          obtain ⟨x, HX⟩ : ∃ x, Hid (cur.getD k (0, 0) = x) := ⟨_, rfl⟩
          obtain ⟨y, HY⟩ : ∃ y, Hid (cur.getD (k + 1) (0, 0) = y) := ⟨_, rfl⟩
          rw [HX.out] at p0 p1
          rw [HY.out] at q0 q1
          have fr := HP.out.free
          have e0 : ((k : Int) + 1).toNat = k + 1 := by omega
          have jc0 : (0 : Int) ≤ (k : Int) + 1 := by omega
          have HKL := Aside0.mk (show k + 1 < xs.length by omega)
          have HAK := Aside0.mk (And.intro hak hki)
          clear hg hak hki
          go_wp2_with fail
          go_region
          all_goals
            go_wp2_with fail
            go_roundg g2
            case measure => omega
            case rel => exact ⟨k + 1, _, by go_num, by have := HAK.out; omega, by have := HG2.out; omega, HG2.out, ⟨(HP.out.swap (Nat.lt_of_succ_lt HKL.out) HKL.out HX.out HY.out).drew⟩⟩
set_option maxRecDepth 100000 in
set_option maxHeartbeats 4000000 in
theorem sym2_M (g : Nat) (lb : Array Value) (cf : Mv → Mv → Int) (eg : ∀ args w, (callFunc g args).run Tryz.prog w = .ok (.enter g args) w) (base b cap a m c : Nat) (xs : List Mv) (B0 : Nat) (w W : World) (cur0 : List Mv)
    (hcm : CmpM g lb cf xs b w) (hP : PermAt base b cap xs B0 w W cur0) (ham : a < m) (hne : m ≠ a + 1) (hmc : c = m + 1) (hc : c ≤ xs.length) (hlen : xs.length ≤ 1000000) : SymIs g lb base b cap a m c xs B0 w W := by
  unfold SymIs
  subst hmc
  have HC := Aside0.mk hcm
  have HP0 := Aside0.mk hP
  have hu2 := Tryz.underlying36
  clear hcm hP
  have w0 : ((m : Int) - (a : Int) == 1) = false := by simp; omega
  have w1 : IntKind.i64.wrap ((m : Int) - (a : Int)) = (m : Int) - (a : Int) := by rw [IntKind.wrap_i64]; omega
  have w2 : (m : Int) + 1 - (m : Int) = 1 := by omega
  rw [show ((m + 1 : Nat) : Int) = (m : Int) + 1 by omega]
  have hma : (m : Int) ≤ 1000000 := by omega
  go_enter Tryz.func145, Tryz.ntmps145
  go_wp2
  go_loopg [14, 15, 16] (m - a) (fun gg s10 s11 _ wr => ∃ (i j : Nat) (cur : List Mv), s10 = .int .i64 (i : Int) ∧ s11 = .int .i64 (j : Int) ∧ a ≤ i ∧ i ≤ j ∧ j ≤ m ∧ j - i ≤ gg ∧ Aside0 (PermAt base b cap xs B0 w wr cur))
  case atStart => exact ⟨a, m, cur0, rfl, rfl, Nat.le_refl _, by omega, Nat.le_refl _, Nat.le_refl _, HP0⟩
  case round =>
    clear HP0 w0 w1 w2
    obtain ⟨i, j, cur, rfl, rfl, hai, hij, hjc, hg, HP⟩ := hrel
    by_cases hlt : i < j
    · have hltz : (i : Int) < (j : Int) := by omega
      obtain ⟨h, hh⟩ : ∃ h, (i + j) / 2 = h := ⟨_, rfl⟩
      have hdv : ((i : Int) + (j : Int)) / 2 = (h : Int) := by omega
      have HH := Aside0.mk (show i ≤ h ∧ h < j by omega)
      have hhl : (h : Int) < (xs.length : Int) := by have := HH.out; omega
      have hal : (m : Int) < (xs.length : Int) := by omega
      obtain ⟨p0, p1⟩ := HP.out.cells m (by omega)
      obtain ⟨q0, q1⟩ := HP.out.cells h (by have := HH.out; omega)
      have hmx := HP.out.mem m (by omega)
      have hmy := HP.out.mem h (by have := HH.out; omega)
      generalize cur.getD m (0, 0) = x at *
      generalize cur.getD h (0, 0) = y at *
      obtain ⟨xa, xb⟩ := x
      obtain ⟨ya, yb⟩ := y
      simp only at p0 p1 q0 q1
      have HCC := Aside0.mk (fun q : BelowOf wr => HC.out q.W (xa, xb) (ya, yb) hmx hmy (keep_then_below HP.out.keep q.bel))
      have HPQ := Aside0.mk (And.intro (And.intro p0 p1) (And.intro q0 q1))
      have HIJ := Aside0.mk (And.intro hai (And.intro hij (And.intro hjc hg)))
      clear p0 p1 q0 q1 hmx hmy hh hai hij hjc hg hlt
      have p0 := fun q : BelowOf wr => q.cell HPQ.out.1.1
      have p1 := fun q : BelowOf wr => q.cell HPQ.out.1.2
      have q0 := fun q : BelowOf wr => q.cell HPQ.out.2.1
      have q1 := fun q : BelowOf wr => q.cell HPQ.out.2.2
      rcases (show decide (cf (xa, xb) (ya, yb) < 0) = true ∨ decide (cf (xa, xb) (ya, yb) < 0) = false by cases decide (cf (xa, xb) (ya, yb) < 0) <;> simp) with hlv | hlv
      all_goals
        go_wp2_with fail
        refine wp_region_below (by kernel_rfl) ?_
        repeat (quiet_step ((go_at_fn g; exact BelowOf.calls (HCC.out _))))
        refine wpQuiet_nil ?_
        rintro w2 ⟨⟨_, hb⟩, rfl⟩
        have HP2 := Aside0.mk (HP.out.below hb)
        clear p0 p1 q0 q1 hb HPQ HCC HP
        go_wp2_with fail
      · go_roundg (h - i)
        case measure => have := HH.out; have := HIJ.out; omega
        case rel => exact ⟨i, h, cur, rfl, rfl, HIJ.out.1, HH.out.1, by have := HH.out; have := HIJ.out; omega, Nat.le_refl _, HP2⟩
      · go_roundg (j - (h + 1))
        case measure => have := HH.out; have := HIJ.out; omega
        case rel => exact ⟨h + 1, j, cur, by go_num, rfl, by have := HH.out; have := HIJ.out; omega, by have := HH.out; omega, HIJ.out.2.2.1, Nat.le_refl _, HP2⟩
    · have hltz : ¬ (i : Int) < (j : Int) := by omega
      have him : i ≤ m := by omega
      clear hlt hij hjc hg
      go_wp2_with fail
      go_loopg [17] (m - i) (fun gg s13 wr => ∃ (k : Nat) (cur : List Mv), s13 = .int .i64 (k : Int) ∧ i ≤ k ∧ k ≤ m ∧ i + gg = k ∧ Aside0 (PermAt base b cap xs B0 w wr cur))
      case atStart => exact ⟨m, cur, rfl, him, Nat.le_refl _, by omega, HP⟩
      case round =>
        clear HP
        obtain ⟨k, cur, rfl, hak, hki, hg, HP⟩ := hrel
        cases gk with
        | zero =>
          have hn : ¬ (i : Int) < (k : Int) := by omega
          go_wp2_with fail
          (try simp only [Exit.inBlock, Exit.then])
          refine bodyPost_ret (results_none rfl _ _ _) rfl ?_
          exact ⟨rfl, cur, HP.out⟩
        | succ g2 =>
          obtain ⟨k, rfl⟩ : ∃ k2, k = k2 + 1 := ⟨k - 1, by omega⟩
          have hn : (i : Int) < (k : Int) + 1 := by omega
          have HG2 := Aside0.mk (show i + g2 = k by omega)
          have ja : (k : Int) < (xs.length : Int) := by omega
          have jc : (k : Int) + 1 < (xs.length : Int) := by omega
          obtain ⟨p0, p1⟩ := HP.out.cells (k + 1) (by omega)
          obtain ⟨q0, q1⟩ := HP.out.cells k (by omega)
          obtain ⟨x, HX⟩ : ∃ x, Hid (cur.getD (k + 1) (0, 0) = x) := ⟨_, rfl⟩
          obtain ⟨y, HY⟩ : ∃ y, Hid (cur.getD k (0, 0) = y) := ⟨_, rfl⟩
          rw [HX.out] at p0 p1
          rw [HY.out] at q0 q1
          have fr := HP.out.free
          have hwk : IntKind.i64.wrap (k : Int) = (k : Int) := by rw [IntKind.wrap_i64]; omega
          have e0 : ((k : Int) + 1).toNat = k + 1 := by omega
          have jc0 : (0 : Int) ≤ (k : Int) + 1 := by omega
          have HKL := Aside0.mk (show k + 1 < xs.length by omega)
          have HAK := Aside0.mk (And.intro hak hki)
          clear hg hak hki
          go_wp2_with fail
          go_region
          all_goals
            go_wp2_with fail
            go_roundg g2
            case measure => omega
            case rel => exact ⟨k, _, by go_num, by have := HG2.out; omega, by have := HAK.out; omega, HG2.out, ⟨(HP.out.swap HKL.out (Nat.lt_of_succ_lt HKL.out) HX.out HY.out).drew⟩⟩
end Go.Proofs.YtafmapadkpjliaaGreatDoor.K

/- slices.SortStableFunc at []api.Move, of any length: what lies there then is what lay there, in some order. -/
namespace Go.Proofs.YtafmapadkpjliaaGreatDoor.K
open Go.RowKit Go.Lib Go.Proofs.YtafmapadkpjliaaGreatDoorW.PrintWords Go.Proofs.YtafmapadkpjliaaGreatDoorW.PrintLast Go.Proofs.YtafmapadkpjliaaGreatDoorW.PrintMore
set_option linter.unusedVariables false
set_option linter.unusedSimpArgs false
theorem wrap_ok {x : Nat} (h : x ≤ 1000000) : IntKind.i64.wrap (x : Int) = (x : Int) := by rw [IntKind.wrap_i64]; omega
theorem wrap_ok2 {x : Nat} (h : x ≤ 1000000) : wrap64 (x : Int) = (x : Int) := by unfold wrap64; omega
theorem sym_idx {a m c d n i j h len : Nat} (hn : d + m = n) (hlt : i < j) (hjm : j ≤ m) (hic : n - i ≤ c) (hjn : n - j ≥ m) (hjn2 : j < n) (hc : c ≤ len) (hmc : m < c) (hh : (i + j) / 2 = h) (hl : len ≤ 1000000) :
    (i ≤ h ∧ h < j) ∧ n - 1 - h < len ∧ h < len ∧ (n : Int) - 1 - (h : Int) = ((n - 1 - h : Nat) : Int) ∧ ((i : Int) + (j : Int)) / 2 = (h : Int) ∧ h ≤ 1000000 ∧ n - 1 - h ≤ 1000000 := by omega
theorem sym_lo {a m c d n i j h gk : Nat} (h1 : i ≤ h ∧ h < j) (h2 : (i ≤ j ∧ j ≤ m ∧ a ≤ i ∧ j ≤ d ∧ n - i ≤ c ∧ n - j ≥ m ∧ j < n) ∧ j - i ≤ gk) : h - i < gk ∧ i ≤ h ∧ h ≤ m ∧ a ≤ i ∧ h ≤ d ∧ n - i ≤ c ∧ n - h ≥ m ∧ h < n := by omega
theorem sym_hi {a m c d n i j h gk : Nat} (h1 : i ≤ h ∧ h < j) (h2 : (i ≤ j ∧ j ≤ m ∧ a ≤ i ∧ j ≤ d ∧ n - i ≤ c ∧ n - j ≥ m ∧ j < n) ∧ j - i ≤ gk) : j - (h + 1) < gk ∧ h + 1 ≤ j ∧ j ≤ m ∧ a ≤ h + 1 ∧ j ≤ d ∧ n - (h + 1) ≤ c ∧ n - j ≥ m ∧ j < n := by omega
set_option maxRecDepth 100000 in
set_option maxHeartbeats 8000000 in
theorem sym3_M (g : Nat) (lb : Array Value) (cf : Mv → Mv → Int) (eg : ∀ args w, (callFunc g args).run Tryz.prog w = .ok (.enter g args) w) (base b cap a m c : Nat) (xs : List Mv) (B0 : Nat) (w W : World) (cur0 : List Mv)
    (hcm : CmpM g lb cf xs b w) (hP : PermAt base b cap xs B0 w W cur0) (ham : a < m) (hne : m ≠ a + 1) (hmc : m < c) (hne2 : c ≠ m + 1) (hc : c ≤ xs.length) (hlen : xs.length ≤ 1000000)
    (IH : ∀ (a2 m2 c2 : Nat) (W2 : World) (cur : List Mv), c2 - a2 < c - a → a2 < m2 → m2 < c2 → c2 ≤ xs.length → PermAt base b cap xs B0 w W2 cur → SymIs g lb base b cap a2 m2 c2 xs B0 w W2) : SymIs g lb base b cap a m c xs B0 w W := by
  unfold SymIs
  have HC := Aside0.mk hcm
  have HP0 := Aside0.mk hP
  have hu2 := Tryz.underlying36
  have HIH := Aside0.mk (fun (a2 m2 c2 : Nat) (W2 : World) (cur : List Mv) (h1 : c2 - a2 < c - a) (h2 : a2 < m2) (h3 : m2 < c2) (h4 : c2 ≤ xs.length) (h5 : PermAt base b cap xs B0 w W2 cur) => show Calls Tryz.prog 145 #[.slice (some ⟨b, 0, none⟩) xs.length cap, .int .i64 (a2 : Int), .int .i64 (m2 : Int), .int .i64 (c2 : Int), .func (.func g) #[] lb] W2 fun e w' => e = .returned (.tuple #[]) ∧ ∃ cur, PermAt base b cap xs B0 w w' cur from IH a2 m2 c2 W2 cur h1 h2 h3 h4 h5)
  have HROT := Aside0.mk (fun (a2 m2 c2 : Nat) (W2 : World) (cur : List Mv) (h2 : a2 < m2) (h3 : m2 < c2) (h4 : c2 ≤ xs.length) (h5 : PermAt base b cap xs B0 w W2 cur) => rot_M (.func (.func g) #[] lb) base b cap a2 m2 c2 xs B0 w W2 cur h5 h2 h3 h4 hlen)
  clear hcm hP IH
  have w0 : ((m : Int) - (a : Int) == 1) = false := by simp; omega
  have w1 : IntKind.i64.wrap ((m : Int) - (a : Int)) = (m : Int) - (a : Int) := by rw [IntKind.wrap_i64]; omega
  have w2 : ((c : Int) - (m : Int) == 1) = false := by simp; omega
  have w3 : IntKind.i64.wrap ((c : Int) - (m : Int)) = (c : Int) - (m : Int) := by rw [IntKind.wrap_i64]; omega
  obtain ⟨d, hd⟩ : ∃ d, (a + c) / 2 = d := ⟨_, rfl⟩
  have hdv : ((a : Int) + (c : Int)) / 2 = (d : Int) := by omega
  have had : a < d := by omega
  have hdc : d < c := by omega
  obtain ⟨n, hn⟩ : ∃ n, d + m = n := ⟨_, rfl⟩
  have hnv : (d : Int) + (m : Int) = (n : Int) := by omega
  have hac : (a : Int) ≤ 1000000 := by omega
  have hcc : (c : Int) ≤ 1000000 := by omega
  have hmm : (m : Int) ≤ 1000000 := by omega
  have hdd : (d : Int) ≤ 1000000 := by omega
  have hnn : (n : Int) ≤ 2000000 := by omega
  -- where the search begins and ends
  obtain ⟨s0, r0, hs, hsc⟩ : ∃ s0 r0 : Nat, ((¬ (d : Int) < (m : Int) ∧ s0 = a ∧ r0 = m) ∨ ((d : Int) < (m : Int) ∧ s0 = n - c ∧ r0 = d)) ∧ (s0 ≤ r0 ∧ r0 ≤ m ∧ a ≤ s0 ∧ r0 ≤ d ∧ n - s0 ≤ c ∧ n - r0 ≥ m ∧ r0 < n) := by
    by_cases h : d < m
    · exact ⟨n - c, d, .inr ⟨by omega, rfl, rfl⟩, by omega⟩
    · exact ⟨a, m, .inl ⟨by omega, rfl, rfl⟩, by omega⟩
  have HSC := Aside0.mk hsc
  have HMID := Aside0.mk (And.intro had (And.intro hdc (And.intro ham (And.intro hmc (And.intro hc hn)))))
  have HWH := Aside0.mk (show (n : Int) - 1 = ((n - 1 : Nat) : Int) by omega)
  rcases hs with ⟨hdm, hs0⟩ | ⟨hdm, hs0⟩
  all_goals
    have HS0 := Aside0.mk hs0
    clear hs0 hsc hd hn had hdc
    go_enter Tryz.func145, Tryz.ntmps145
    go_wp2
    go_loopg [20, 21, 23] (c - a) (fun gg s20 s21 _ wr => ∃ (i j : Nat) (cur : List Mv), s20 = .int .i64 (i : Int) ∧ s21 = .int .i64 (j : Int) ∧ i ≤ j ∧ j ≤ m ∧ a ≤ i ∧ j ≤ d ∧ n - i ≤ c ∧ n - j ≥ m ∧ j < n ∧ j - i ≤ gg ∧ Aside0 (PermAt base b cap xs B0 w wr cur))
  case atStart =>
    have h1 := HSC.out
    have h2 := HS0.out
    have h3 := HMID.out
    exact ⟨a, m, cur0, rfl, rfl, by omega, by omega, by omega, by omega, by omega, by omega, by omega, by omega, HP0⟩
  case atStart =>
    have h1 := HSC.out
    have h2 := HS0.out
    have h3 := HMID.out
    exact ⟨n - c, d, cur0, by go_num, rfl, by omega, by omega, by omega, by omega, by omega, by omega, by omega, by omega, HP0⟩
  all_goals
    clear HP0 HSC HS0
    have hmid := HMID.out
    obtain ⟨i, j, cur, rfl, rfl, hij, hjm, hai, hjd, hic, hjn, hjn2, hg, HP⟩ := hrel
    clear hdm
    by_cases hlt : i < j
    · have hltz : (i : Int) < (j : Int) := by omega
      obtain ⟨h, hh⟩ : ∃ h, (i + j) / 2 = h := ⟨_, rfl⟩
      have HSI := Aside0.mk (sym_idx (a := a) hmid.2.2.2.2.2 hlt hjm hic hjn hjn2 hmid.2.2.2.2.1 hmid.2.2.2.1 hh hlen)
      have HH := Aside0.mk HSI.out.1
      have HIJ := Aside0.mk (show (i ≤ j ∧ j ≤ m ∧ a ≤ i ∧ j ≤ d ∧ n - i ≤ c ∧ n - j ≥ m ∧ j < n) ∧ j - i ≤ gk from ⟨⟨hij, hjm, hai, hjd, hic, hjn, hjn2⟩, hg⟩)
      clear hmid hij hjm hai hjd hic hjn hjn2 hg hlt hh
      have hdv2 := HSI.out.2.2.2.2.1
      obtain ⟨x0, hx0⟩ : ∃ x0, n - 1 - h = x0 := ⟨_, rfl⟩
      have hxs := HSI.out.2.1
      have hhs := HSI.out.2.2.1
      have hxv := HSI.out.2.2.2.1
      have hxb0 := HSI.out.2.2.2.2.2.2
      have hhb0 := HSI.out.2.2.2.2.2.1
      rw [hx0] at hxs hxv hxb0
      have hxb : (x0 : Int) ≤ 1000000 := Int.ofNat_le.2 hxb0
      have hxw : wrap64 (x0 : Int) = (x0 : Int) := wrap_ok2 hxb0
      have hxw2 : IntKind.i64.wrap ((n : Int) - 1 - (h : Int)) = (x0 : Int) := by rw [hxv]; exact wrap_ok hxb0
      have hxw3 : IntKind.i64.wrap (x0 : Int) = (x0 : Int) := wrap_ok hxb0
      have hhb : (h : Int) ≤ 1000000 := Int.ofNat_le.2 hhb0
      have hxl : (x0 : Int) < (xs.length : Int) := Int.ofNat_lt.2 hxs
      have hhl : (h : Int) < (xs.length : Int) := Int.ofNat_lt.2 hhs
      obtain ⟨p0, p1⟩ := HP.out.cells x0 hxs
      obtain ⟨q0, q1⟩ := HP.out.cells h hhs
      have hmx := HP.out.mem x0 hxs
      have hmy := HP.out.mem h hhs
      generalize cur.getD x0 (0, 0) = x at *
      generalize cur.getD h (0, 0) = y at *
      obtain ⟨xa, xb⟩ := x
      obtain ⟨ya, yb⟩ := y
      simp only at p0 p1 q0 q1
      have HCC := Aside0.mk (fun q : BelowOf wr => HC.out q.W (xa, xb) (ya, yb) hmx hmy (keep_then_below HP.out.keep q.bel))
      have HPQ := Aside0.mk (And.intro (And.intro p0 p1) (And.intro q0 q1))
      clear p0 p1 q0 q1 hmx hmy hx0 hxs hhs hxb0 hhb0
      have p0 := fun q : BelowOf wr => q.cell HPQ.out.1.1
      have p1 := fun q : BelowOf wr => q.cell HPQ.out.1.2
      have q0 := fun q : BelowOf wr => q.cell HPQ.out.2.1
      have q1 := fun q : BelowOf wr => q.cell HPQ.out.2.2
      rcases (show decide (cf (xa, xb) (ya, yb) < 0) = true ∨ decide (cf (xa, xb) (ya, yb) < 0) = false by cases decide (cf (xa, xb) (ya, yb) < 0) <;> simp) with hlv | hlv
      all_goals
        go_wp2_with fail
        refine wp_region_below (by kernel_rfl) ?_
        repeat (quiet_step ((go_at_fn g; with_reducible exact BelowOf.calls (HCC.out _))))
        refine wpQuiet_nil ?_
        rintro w2 ⟨⟨_, hb⟩, rfl⟩
        have HP2 := Aside0.mk (HP.out.below hb)
        clear p0 p1 q0 q1 hb HPQ HCC HP
        go_wp2_with fail
      · go_roundg (h - i)
        case measure => exact (sym_lo HH.out HIJ.out).1
        case rel =>
          obtain ⟨_, g1, g2, g3, g4, g5, g6, g7⟩ := sym_lo HH.out HIJ.out
          exact ⟨i, h, cur, rfl, rfl, g1, g2, g3, g4, g5, g6, g7, Nat.le_refl _, HP2⟩
      · go_roundg (j - (h + 1))
        case measure => exact (sym_hi HH.out HIJ.out).1
        case rel =>
          obtain ⟨_, g1, g2, g3, g4, g5, g6, g7⟩ := sym_hi HH.out HIJ.out
          exact ⟨h + 1, j, cur, by go_num, rfl, g1, g2, g3, g4, g5, g6, g7, Nat.le_refl _, HP2⟩
    · have hltz : ¬ (i : Int) < (j : Int) := by omega
      obtain ⟨e, he⟩ : ∃ e, n - i = e := ⟨_, rfl⟩
      have hev : (n : Int) - (i : Int) = (e : Int) := by omega
      have HE := Aside0.mk (show a ≤ i ∧ i ≤ m ∧ i ≤ d ∧ m ≤ e ∧ e ≤ c ∧ i + e = n by omega)
      have heb : (e : Int) ≤ 1000000 := by omega
      have hib : (i : Int) ≤ 1000000 := by omega
      clear hmid hij hjm hai hjd hic hjn hjn2 hg hlt he
      have h1 := HE.out
      have h2 := HMID.out
      have HR1 := Aside0.mk (fun (W : World) (k1 : (i : Int) < (m : Int)) (k2 : (m : Int) < (e : Int)) (hq : ∃ cur, PermAt base b cap xs B0 w W cur) => show Calls Tryz.prog 162 #[.slice (some ⟨b, 0, none⟩) xs.length cap, .int .i64 (i : Int), .int .i64 (m : Int), .int .i64 (e : Int), .func (.func g) #[] lb] W fun e w' => e = .returned (.tuple #[]) ∧ ∃ cur, PermAt base b cap xs B0 w w' cur by
        obtain ⟨cur, hq⟩ := hq
        exact HROT.out i m e W cur (by omega) (by omega) (by omega) hq)
      have HR2 := Aside0.mk (fun (W : World) (k1 : (a : Int) < (i : Int)) (k2 : (i : Int) < (d : Int)) (hq : ∃ cur, PermAt base b cap xs B0 w W cur) => show Calls Tryz.prog 145 #[.slice (some ⟨b, 0, none⟩) xs.length cap, .int .i64 (a : Int), .int .i64 (i : Int), .int .i64 (d : Int), .func (.func g) #[] lb] W fun e w' => e = .returned (.tuple #[]) ∧ ∃ cur, PermAt base b cap xs B0 w w' cur by
        obtain ⟨cur, hq⟩ := hq
        exact HIH.out a i d W cur (by omega) (by omega) (by omega) (by omega) hq)
      have HR3 := Aside0.mk (fun (W : World) (k1 : (d : Int) < (e : Int)) (k2 : (e : Int) < (c : Int)) (hq : ∃ cur, PermAt base b cap xs B0 w W cur) => show Calls Tryz.prog 145 #[.slice (some ⟨b, 0, none⟩) xs.length cap, .int .i64 (d : Int), .int .i64 (e : Int), .int .i64 (c : Int), .func (.func g) #[] lb] W fun e w' => e = .returned (.tuple #[]) ∧ ∃ cur, PermAt base b cap xs B0 w w' cur by
        obtain ⟨cur, hq⟩ := hq
        exact HIH.out d e c W cur (by omega) (by omega) (by omega) (by omega) hq)
      have HQ0 := Aside0.mk (show ∃ cur, PermAt base b cap xs B0 w wr cur from ⟨cur, HP.out⟩)
      clear h1 h2 HP HROT HIH HC
      go_upto_region 39 with fail
      go_cut [185] from 178 to 185 (fun st wx => ∃ bA : Bool, st = .bool bA ∧ Aside0 (bA = true → (i : Int) < (m : Int) ∧ (m : Int) < (e : Int)) ∧ Aside0 (∃ cur, PermAt base b cap xs B0 w wx cur))
      case first =>
        rcases (show ((i : Int) < (m : Int) ∧ (m : Int) < (e : Int)) ∨ ((i : Int) < (m : Int) ∧ ¬ (m : Int) < (e : Int)) ∨ ¬ (i : Int) < (m : Int) by omega) with ⟨q1, q2⟩ | ⟨q1, q2⟩ | q1
        · go_wp2_with fail
          go_meet
          exact ⟨_, rfl, ⟨fun _ => ⟨q1, q2⟩⟩, HQ0⟩
        · go_wp2_with fail
          go_meet
          exact ⟨_, rfl, ⟨fun h => by simp at h⟩, HQ0⟩
        · go_wp2_with fail
          go_meet
          exact ⟨_, rfl, ⟨fun h => by simp at h⟩, HQ0⟩
      case rest =>
      obtain ⟨bA, rfl, HA, HQ⟩ := hcut
      go_upto_if 185 with fail
      go_cut [20] from 186 to 191 (fun s20 wx => s20 = .int .i64 (i : Int) ∧ Aside0 (∃ cur, PermAt base b cap xs B0 w wx cur))
      case first =>
        cases bA
        · go_wp2_with fail
          go_meet
          exact ⟨rfl, HQ⟩
        · have HCALL := Aside0.mk (HR1.out _ (HA.out rfl).1 (HA.out rfl).2 HQ.out)
          go_wp2_with fail
          refine HCALL.out.mono ?_
          rintro e w2 ⟨rfl, hq1⟩
          have HQ1 := Aside0.mk hq1
          clear hq1
          go_wp2_with fail
          go_meet
          exact ⟨rfl, HQ1⟩
      case rest =>
      obtain ⟨rfl, HQ0⟩ := hcut
      clear HQ HA
      go_upto_region 41 with fail
      go_cut [199] from 192 to 199 (fun st wx => ∃ bA : Bool, st = .bool bA ∧ Aside0 (bA = true → (a : Int) < (i : Int) ∧ (i : Int) < (d : Int)) ∧ Aside0 (∃ cur, PermAt base b cap xs B0 w wx cur))
      case first =>
        rcases (show ((a : Int) < (i : Int) ∧ (i : Int) < (d : Int)) ∨ ((a : Int) < (i : Int) ∧ ¬ (i : Int) < (d : Int)) ∨ ¬ (a : Int) < (i : Int) by omega) with ⟨q1, q2⟩ | ⟨q1, q2⟩ | q1
        · go_wp2_with fail
          go_meet
          exact ⟨_, rfl, ⟨fun _ => ⟨q1, q2⟩⟩, HQ0⟩
        · go_wp2_with fail
          go_meet
          exact ⟨_, rfl, ⟨fun h => by simp at h⟩, HQ0⟩
        · go_wp2_with fail
          go_meet
          exact ⟨_, rfl, ⟨fun h => by simp at h⟩, HQ0⟩
      case rest =>
      obtain ⟨bA, rfl, HA, HQ⟩ := hcut
      go_upto_if 199 with fail
      go_cut [20] from 200 to 205 (fun s20 wx => s20 = .int .i64 (i : Int) ∧ Aside0 (∃ cur, PermAt base b cap xs B0 w wx cur))
      case first =>
        cases bA
        · go_wp2_with fail
          go_meet
          exact ⟨rfl, HQ⟩
        · have HCALL := Aside0.mk (HR2.out _ (HA.out rfl).1 (HA.out rfl).2 HQ.out)
          go_wp2_with fail
          refine HCALL.out.mono ?_
          rintro e w2 ⟨rfl, hq1⟩
          have HQ1 := Aside0.mk hq1
          clear hq1
          go_wp2_with fail
          go_meet
          exact ⟨rfl, HQ1⟩
      case rest =>
      obtain ⟨rfl, HQ0⟩ := hcut
      clear HQ HA
      go_upto_region 43 with fail
      go_cut [213] from 206 to 213 (fun st wx => ∃ bA : Bool, st = .bool bA ∧ Aside0 (bA = true → (d : Int) < (e : Int) ∧ (e : Int) < (c : Int)) ∧ Aside0 (∃ cur, PermAt base b cap xs B0 w wx cur))
      case first =>
        rcases (show ((d : Int) < (e : Int) ∧ (e : Int) < (c : Int)) ∨ ((d : Int) < (e : Int) ∧ ¬ (e : Int) < (c : Int)) ∨ ¬ (d : Int) < (e : Int) by omega) with ⟨q1, q2⟩ | ⟨q1, q2⟩ | q1
        · go_wp2_with fail
          go_meet
          exact ⟨_, rfl, ⟨fun _ => ⟨q1, q2⟩⟩, HQ0⟩
        · go_wp2_with fail
          go_meet
          exact ⟨_, rfl, ⟨fun h => by simp at h⟩, HQ0⟩
        · go_wp2_with fail
          go_meet
          exact ⟨_, rfl, ⟨fun h => by simp at h⟩, HQ0⟩
      case rest =>
      obtain ⟨bA, rfl, HA, HQ⟩ := hcut
      cases bA
      · go_wp2_with fail
        go_end0
        exact ⟨rfl, HQ.out⟩
      · have HCALL := Aside0.mk (HR3.out _ (HA.out rfl).1 (HA.out rfl).2 HQ.out)
        go_wp2_with fail
        refine HCALL.out.mono ?_
        rintro e w2 ⟨rfl, hq1⟩
        have HQ1 := Aside0.mk hq1
        clear hq1
        go_wp2_with fail
        go_end0
        exact ⟨rfl, HQ1.out⟩
set_option maxHeartbeats 1000000 in
theorem sym_M (g : Nat) (lb : Array Value) (cf : Mv → Mv → Int) (eg : ∀ args w, (callFunc g args).run Tryz.prog w = .ok (.enter g args) w) (base b cap : Nat) (xs : List Mv) (B0 : Nat) (w : World) (hcm : CmpM g lb cf xs b w) (hlen : xs.length ≤ 1000000) :
    ∀ (k a m c : Nat) (W : World) (cur0 : List Mv), c - a ≤ k → a < m → m < c → c ≤ xs.length → PermAt base b cap xs B0 w W cur0 → SymIs g lb base b cap a m c xs B0 w W
  | 0, a, m, c, W, cur0, hk, h1, h2, h3, hP => by omega
  | k + 1, a, m, c, W, cur0, hk, h1, h2, h3, hP => by
    by_cases e1 : m = a + 1
    · exact sym1_M g lb cf eg base b cap a m c xs B0 w W cur0 hcm hP e1 h2 h3 hlen
    by_cases e2 : c = m + 1
    · exact sym2_M g lb cf eg base b cap a m c xs B0 w W cur0 hcm hP h1 e1 e2 h3 hlen
    exact sym3_M g lb cf eg base b cap a m c xs B0 w W cur0 hcm hP h1 e1 h2 e2 h3 hlen (fun a2 m2 c2 W2 cur h4 h5 h6 h7 h8 => sym_M g lb cf eg base b cap xs B0 w hcm hlen k a2 m2 c2 W2 cur (by omega) h5 h6 h7 h8)
end Go.Proofs.YtafmapadkpjliaaGreatDoor.K

/- slices.SortStableFunc at []api.Move, of any length: the whole. -/
namespace Go.Proofs.YtafmapadkpjliaaGreatDoor.K
open Go.RowKit Go.Lib Go.Proofs.YtafmapadkpjliaaGreatDoorW.PrintWords Go.Proofs.YtafmapadkpjliaaGreatDoorW.PrintLast Go.Proofs.YtafmapadkpjliaaGreatDoorW.PrintMore
set_option linter.unusedVariables false
set_option linter.unusedSimpArgs false
set_option maxRecDepth 100000 in
set_option maxHeartbeats 8000000 in
theorem stableL_M (g : Nat) (lb : Array Value) (cf : Mv → Mv → Int) (eg : ∀ args w, (callFunc g args).run Tryz.prog w = .ok (.enter g args) w) (base b cap : Nat) (xs : List Mv) (B0 : Nat) (w W : World) (cur0 : List Mv)
    (hc : CmpM g lb cf xs b w) (hP : PermAt base b cap xs B0 w W cur0) (hlen : xs.length ≤ 10000) :
    Calls Tryz.prog 109 #[.slice (some ⟨b, 0, none⟩) xs.length cap, .int .i64 (xs.length : Int), .func (.func g) #[] lb] W fun e w' => e = .returned (.tuple #[]) ∧ ∃ cur, PermAt base b cap xs B0 w w' cur := by
  have HP0 := Aside0.mk (show ∃ cur, PermAt base b cap xs B0 w W cur from ⟨cur0, hP⟩)
  have HI := Aside0.mk (fun (W : World) (a n : Nat) (ai ni : Int) (ea : ai = (a : Int)) (en : ni = (n : Int)) (hn : n ≤ xs.length) (ha : a ≤ 1000000) (hq : ∃ cur, PermAt base b cap xs B0 w W cur) => show Calls Tryz.prog 144 #[.slice (some ⟨b, 0, none⟩) xs.length cap, .int .i64 ai, .int .i64 ni, .func (.func g) #[] lb] W fun e w' => e = .returned (.tuple #[]) ∧ ∃ cur, PermAt base b cap xs B0 w w' cur by
    obtain ⟨cur, hq⟩ := hq
    subst ea en
    exact ins_M g lb cf eg base b cap a n xs B0 w W cur hc hq hn (by omega) ha)
  have HS := Aside0.mk (fun (W : World) (a m c : Nat) (ai mi ci : Int) (ea : ai = (a : Int)) (em : mi = (m : Int)) (ec : ci = (c : Int)) (h1 : a < m) (h2 : m < c) (h3 : c ≤ xs.length) (hq : ∃ cur, PermAt base b cap xs B0 w W cur) => show Calls Tryz.prog 145 #[.slice (some ⟨b, 0, none⟩) xs.length cap, .int .i64 ai, .int .i64 mi, .int .i64 ci, .func (.func g) #[] lb] W fun e w' => e = .returned (.tuple #[]) ∧ ∃ cur, PermAt base b cap xs B0 w w' cur by
    obtain ⟨cur, hq⟩ := hq
    subst ea em ec
    exact sym_M g lb cf eg base b cap xs B0 w hc (by omega) (c - a) a m c W cur (Nat.le_refl _) h1 h2 h3 hq)
  clear hc hP eg
  have hl0 : (xs.length : Int) ≤ 10000 := by omega
  generalize xs.length = n at *
  go_enter Tryz.func109, Tryz.ntmps109
  go_wp2_with fail
  go_loopg [7, 8] n (fun gg s7 s8 wr => ∃ a : Nat, s7 = .int .i64 (a : Int) ∧ s8 = .int .i64 ((a : Int) + 20) ∧ a ≤ n ∧ n - a ≤ gg ∧ Aside0 (∃ cur, PermAt base b cap xs B0 w wr cur))
  case atStart => exact ⟨0, rfl, rfl, by omega, by omega, HP0⟩
  case round =>
    clear HP0
    obtain ⟨a, rfl, rfl, ha, hg, HP⟩ := hrel
    by_cases h20 : a + 20 ≤ n
    · have hz : (a : Int) + 20 ≤ (n : Int) := by omega
      have haz : (a : Int) ≤ 10000 := by omega
      go_wp2_with fail
      refine (HI.out _ a (a + 20) _ _ rfl (by go_num) h20 (by omega) HP.out).mono ?_
      rintro e w1 ⟨rfl, h1⟩
      have HP1 := Aside0.mk h1
      clear h1 HP
      go_wp2_with fail
      go_roundg (n - (a + 20))
      case measure => omega
      case rel => exact ⟨a + 20, by go_num, by go_num, h20, Nat.le_refl _, HP1⟩
    · have hz : ¬ (a : Int) + 20 ≤ (n : Int) := by omega
      have haz : (a : Int) ≤ 10000 := by omega
      go_wp2_with fail
      refine (HI.out _ a n _ _ rfl rfl (Nat.le_refl _) (by omega) HP.out).mono ?_
      rintro e w1 ⟨rfl, h1⟩
      have HP1 := Aside0.mk h1
      clear h1 HP hz h20 ha hg haz
      go_wp2_with fail
      go_loopg [6, 7, 8, 9] n (fun gg s6 _ _ _ wr => ∃ z : Nat, s6 = .int .i64 (z : Int) ∧ 20 ≤ z ∧ z ≤ 20000 ∧ n - z ≤ gg ∧ Aside0 (∃ cur, PermAt base b cap xs B0 w wr cur))
      case atStart => exact ⟨20, rfl, Nat.le_refl _, by omega, by omega, HP1⟩
      case round =>
        clear HP1
        obtain ⟨z, rfl, hz1, hz2, hg, HP⟩ := hrel
        by_cases hzn : z < n
        · have hzz : (z : Int) < (n : Int) := by omega
          have hzb : (z : Int) ≤ 20000 := by omega
          have HZ := Aside0.mk (And.intro hz1 (And.intro hzn hg))
          clear hz1 hz2 hg hzn
          go_wp2_with fail
          go_loopg [7, 8] n (fun gg s7 s8 wr => ∃ a : Nat, s7 = .int .i64 (a : Int) ∧ s8 = .int .i64 ((a : Int) + 2 * (z : Int)) ∧ a ≤ n ∧ n - a ≤ gg ∧ Aside0 (∃ cur, PermAt base b cap xs B0 w wr cur))
          case atStart => exact ⟨0, rfl, by go_num, by omega, by omega, HP⟩
          case round =>
            clear HP
            obtain ⟨a, rfl, rfl, ha, hg2, HP⟩ := hrel
            have haz : (a : Int) ≤ 10000 := by omega
            by_cases hb : a + 2 * z ≤ n
            · have hbz : (a : Int) + 2 * (z : Int) ≤ (n : Int) := by omega
              go_wp2_with fail
              refine (HS.out _ a (a + z) (a + 2 * z) _ _ _ rfl (by go_num) (by go_num) (by have := HZ.out; omega) (by have := HZ.out; omega) hb HP.out).mono ?_
              rintro e w2 ⟨rfl, h1⟩
              have HP2 := Aside0.mk h1
              clear h1 HP
              go_wp2_with fail
              go_roundg (n - (a + 2 * z))
              case measure => have := HZ.out; omega
              case rel => exact ⟨a + 2 * z, by go_num, by go_num, hb, Nat.le_refl _, HP2⟩
            · have hbz : ¬ (a : Int) + 2 * (z : Int) ≤ (n : Int) := by omega
              by_cases hm : a + z < n
              · have hmz : (a : Int) + (z : Int) < (n : Int) := by omega
                go_wp2_with fail
                refine (HS.out _ a (a + z) n _ _ _ rfl (by go_num) rfl (by have := HZ.out; omega) hm (Nat.le_refl _) HP.out).mono ?_
                rintro e w2 ⟨rfl, h1⟩
                have HP2 := Aside0.mk h1
                clear h1 HP
                go_wp2_with fail
                go_roundg (n - z * 2)
                case measure => have := HZ.out; omega
                case rel => exact ⟨z * 2, by go_num, by have := HZ.out; omega, by have := HZ.out; omega, Nat.le_refl _, HP2⟩
              · have hmz : ¬ (a : Int) + (z : Int) < (n : Int) := by omega
                go_wp2_with fail
                go_roundg (n - z * 2)
                case measure => have := HZ.out; omega
                case rel => exact ⟨z * 2, by go_num, by have := HZ.out; omega, by have := HZ.out; omega, Nat.le_refl _, HP⟩
        · have hzz : ¬ (z : Int) < (n : Int) := by omega
          go_wp2_with fail
          go_end0
          exact ⟨rfl, HP.out⟩
set_option maxRecDepth 100000 in
set_option maxHeartbeats 4000000 in
theorem sortL_M (g : Nat) (lb : Array Value) (cf : Mv → Mv → Int) (eg : ∀ args w, (callFunc g args).run Tryz.prog w = .ok (.enter g args) w) (base b cap : Nat) (xs : List Mv) (B0 : Nat) (w : World)
    (hc : CmpM g lb cf xs b w) (hP : PermAt base b cap xs B0 w w xs) (hlen : xs.length ≤ 10000) :
    Calls Tryz.prog 74 #[.slice (some ⟨b, 0, none⟩) xs.length cap, .func (.func g) #[] lb] w fun e w' => e = .returned (.tuple #[]) ∧ ∃ cur, PermAt base b cap xs B0 w w' cur := by
  have HS := Aside0.mk (stableL_M g lb cf eg base b cap xs B0 w w xs hc hP hlen)
  clear hc hP hlen eg
  go_enter Tryz.func74, Tryz.ntmps74
  go_wp2_with fail
  refine HS.out.mono ?_
  rintro e w' ⟨rfl, cur, h⟩
  have HR := Aside0.mk h
  clear h
  go_wp2_with fail
  go_end0
  exact ⟨rfl, cur, HR.out⟩
end Go.Proofs.YtafmapadkpjliaaGreatDoor.K

/- search: what order's closures answer. -/
namespace Go.Proofs.YtafmapadkpjliaaGreatDoor.K
open Go.RowKit Go.Lib Go.Proofs.YtafmapadkpjliaaGreatDoorW.PrintWords Go.Proofs.YtafmapadkpjliaaGreatDoor.Sp
set_option linter.unusedVariables false
set_option linter.unusedSimpArgs false
/-- What a move brings: the table's own is worth most. -/
def gainI (p : Pos) (h : Bool) (f d : Int) (m : Mv) : Int := if (h && ((m.1 : Int) == f && (m.2 : Int) == d)) = true then 1073741824 else kindV (kindN (cel p.cells m.2))
/-- What order's closures see. -/
structure GainAt (W : World) (bs be B : Nat) (p : Pos) (h : Bool) (f d : Int) : Prop where
  box : BoxP W B p
  ci : W.cell? ⟨bs, 0, none⟩ = some (.bool h)
  cf : W.cell? ⟨be, 4, none⟩ = some (.int .i64 f)
  cd : W.cell? ⟨be, 5, none⟩ = some (.int .i64 d)
theorem GainAt.below {W W' : World} {bs be B : Nat} {p : Pos} {h : Bool} {f d : Int} (x : GainAt W bs be B p h f d) (hb : Below W.heap.size W W') : GainAt W' bs be B p h f d :=
  ⟨x.box.below hb, below_cell hb _ _ _ x.ci, below_cell hb _ _ _ x.cf, below_cell hb _ _ _ x.cd⟩
set_option maxRecDepth 100000 in
set_option maxHeartbeats 2000000 in
theorem gain_c (p : Pos) (bs be B : Nat) (h : Bool) (f d : Int) (m : Mv) (hbd : isBoard p.cells = true) (hm : m.2 < 90) (w : World) (hx : GainAt w bs be B p h f d) :
    Calls Tryz.prog 71 #[mvV m, .pointer (some ⟨bs, 0, none⟩), .pointer (some ⟨be, 0, none⟩), .pointer (some ⟨B, 0, none⟩)] w fun e w' => e = .returned (.int .i64 (gainI p h f d m)) ∧ Below w.heap.size w w' := by
  have HS := fun W => at_c p.cells (m.2 : Int) W
  simp only [at_cel hbd hm] at HS
  have HS := Aside0.mk HS
  have HK := Aside0.mk (fun W => vkind_c (cel p.cells m.2) (cel_lt _ _) W)
  have HB := Aside0.mk (fun (a b : Int) => hx.below (below_alloc (Below.refl _ _) (.cells #[.int .i64 a, .int .i64 b] 36)))
  have hu := Tryz.underlying23
  have hu2 := Tryz.underlying36
  have hu3 := Tryz.underlying84
  have HE := Aside0.mk (show gainI p h f d m = if (h && ((m.1 : Int) == f && (m.2 : Int) == d)) = true then 1073741824 else kindV (kindN (cel p.cells m.2)) from rfl)
  generalize gainI p h f d m = g at *
  generalize cel p.cells m.2 = c at *
  have c0 := fun a b => (HB.out a b).box.c0
  have ci := fun a b => (HB.out a b).ci
  have cf := fun a b => (HB.out a b).cf
  have cd := fun a b => (HB.out a b).cd
  have hne : w.heap.size ≠ B := World.new_ne w _ hx.box.c0
  have hne2 : w.heap.size ≠ bs := World.new_ne w _ hx.ci
  have hne3 : w.heap.size ≠ be := World.new_ne w _ hx.cf
  clear hx hbd hm
  go_enter Tryz.func71, Tryz.ntmps71
  go_wp2_with (first
    | (go_at_call 73; refine (HS.out _).mono ?_; rintro e w2 ⟨rfl, hb⟩; have HC := Aside0.mk (below_go (below_alloc (Below.refl _ _) _) hb); clear hb)
    | (go_at_call 72; refine (HK.out _).mono ?_; rintro e w3 ⟨rfl, hb⟩; have HC2 := Aside0.mk (below_go HC.out hb); clear hb))
  all_goals first
    | (go_ret; refine ⟨?_, HC2.out⟩; rw [HE.out]; simp_all; done)
    | (go_ret; refine ⟨?_, below_alloc (Below.refl _ _) _⟩; rw [HE.out]; simp_all; done)
def lessI (p : Pos) (h : Bool) (f d : Int) (x y : Mv) : Int := Lib.compareInt (gainI p h f d y) (gainI p h f d x)
set_option maxRecDepth 100000 in
set_option maxHeartbeats 2000000 in
theorem less_c (p : Pos) (bg bs be B : Nat) (h : Bool) (f d : Int) (x y : Mv) (hbd : isBoard p.cells = true) (hx2 : x.2 < 90) (hy2 : y.2 < 90) (w : World) (hx : GainAt w bs be B p h f d)
    (hg : w.cell? ⟨bg, 0, none⟩ = some (.func (.func 71) #[] #[.pointer (some ⟨bs, 0, none⟩), .pointer (some ⟨be, 0, none⟩), .pointer (some ⟨B, 0, none⟩)])) :
    Calls Tryz.prog 75 #[mvV x, mvV y, .pointer (some ⟨bg, 0, none⟩)] w fun e w' => e = .returned (.int .i64 (lessI p h f d x y)) ∧ Below w.heap.size w w' := by
  have eg : ∀ args w, (callFunc 71 args).run Tryz.prog w = .ok (.enter 71 args) w := enters_of Tryz.func71 (by kernel_rfl) rfl
  have HY := Aside0.mk (fun W (hb : Below w.heap.size w W) => gain_c p bs be B h f d y hbd hy2 W (hx.below hb))
  have HX := Aside0.mk (fun W (hb : Below w.heap.size w W) => gain_c p bs be B h f d x hbd hx2 W (hx.below hb))
  have HL := Aside0.mk (below_alloc (below_alloc (Below.refl w.heap.size w) (.cells #[.int .i64 (x.1 : Int), .int .i64 (x.2 : Int)] 36)) (.cells #[.int .i64 (y.1 : Int), .int .i64 (y.2 : Int)] 36))
  have hg1 := below_cell HL.out _ _ _ hg
  have hu2 := Tryz.underlying36
  have HE := Aside0.mk (show lessI p h f d x y = Lib.compareInt (gainI p h f d y) (gainI p h f d x) from rfl)
  generalize lessI p h f d x y = r at *
  generalize gainI p h f d x = kx at *
  generalize gainI p h f d y = ky at *
  clear hx hbd hx2 hy2 hg
  go_enter Tryz.func75, Tryz.ntmps75
  go_upto_region 1 with fail
  have a0 : ((w.alloc (.cells #[.int .i64 (x.1 : Int), .int .i64 (x.2 : Int)] 36)).alloc (.cells #[.int .i64 (y.1 : Int), .int .i64 (y.2 : Int)] 36)).cell? ⟨w.heap.size, 0, none⟩ = some (.int .i64 (x.1 : Int)) := by simp [World.cell?_alloc_at, World.cell?_alloc_past]
  have a1 : ((w.alloc (.cells #[.int .i64 (x.1 : Int), .int .i64 (x.2 : Int)] 36)).alloc (.cells #[.int .i64 (y.1 : Int), .int .i64 (y.2 : Int)] 36)).cell? ⟨w.heap.size, 1, none⟩ = some (.int .i64 (x.2 : Int)) := by simp [World.cell?_alloc_at, World.cell?_alloc_past]
  have b0 : ((w.alloc (.cells #[.int .i64 (x.1 : Int), .int .i64 (x.2 : Int)] 36)).alloc (.cells #[.int .i64 (y.1 : Int), .int .i64 (y.2 : Int)] 36)).cell? ⟨w.heap.size + 1, 0, none⟩ = some (.int .i64 (y.1 : Int)) := by simp [World.cell?_alloc_at]
  have b1 : ((w.alloc (.cells #[.int .i64 (x.1 : Int), .int .i64 (x.2 : Int)] 36)).alloc (.cells #[.int .i64 (y.1 : Int), .int .i64 (y.2 : Int)] 36)).cell? ⟨w.heap.size + 1, 1, none⟩ = some (.int .i64 (y.2 : Int)) := by simp [World.cell?_alloc_at]
  generalize (w.alloc (.cells #[.int .i64 (x.1 : Int), .int .i64 (x.2 : Int)] 36)).alloc (.cells #[.int .i64 (y.1 : Int), .int .i64 (y.2 : Int)] 36) = W1 at *
  have HA := Aside0.mk (And.intro (And.intro a0 a1) (And.intro (And.intro b0 b1) hg1))
  clear a0 a1 b0 b1 hg1
  have g0 := fun q : BelowOf W1 => q.cell HA.out.2.2
  have a0 := fun q : BelowOf W1 => q.cell HA.out.1.1
  have a1 := fun q : BelowOf W1 => q.cell HA.out.1.2
  have b0 := fun q : BelowOf W1 => q.cell HA.out.2.1.1
  have b1 := fun q : BelowOf W1 => q.cell HA.out.2.1.2
  have HY2 := Aside0.mk (fun q : BelowOf W1 => BelowOf.calls (HY.out q.W (below_go HL.out q.bel)))
  have HX2 := Aside0.mk (fun q : BelowOf W1 => BelowOf.calls (HX.out q.W (below_go HL.out q.bel)))
  refine wp_region_below (by kernel_rfl) ?_
  repeat (quiet_step (first
    | (go_at_call 76; exact BelowOf.same (Tryz.cmp_Compare_int _ _ _))
    | (go_at_call 71; first | (with_reducible exact HY2.out _) | (with_reducible exact HX2.out _) | exact HY2.out _ | exact HX2.out _)))
  refine wpQuiet_nil ?_
  rintro w2 ⟨⟨_, hb⟩, rfl⟩
  have HR := Aside0.mk (below_go HL.out hb)
  clear hb g0 a0 a1 b0 b1
  go_wp2_with fail
  go_ret
  exact ⟨ret_int (by rw [HE.out]), HR.out⟩
theorem keep_cell2 {w W : World} {b B o : Nat} {v : Value} (hk : KeepBut w W b none) (hne : B ≠ b) (h : w.cell? ⟨B, o, none⟩ = some v) : W.cell? ⟨B, o, none⟩ = some v := by
  have := hk.2 B (World.block_lt_of_cell? w ⟨B, o, none⟩ h) hne (by simp)
  unfold World.cell? at h ⊢
  simp only [this]
  exact h
theorem GainAt.keep {w W : World} {b bs be B : Nat} {p : Pos} {h : Bool} {f d : Int} (hk : KeepBut w W b none) (h1 : bs ≠ b) (h2 : be ≠ b) (h3 : B ≠ b) (x : GainAt w bs be B p h f d) : GainAt W bs be B p h f d :=
  ⟨keep_box hk h3 x.box, keep_cell2 hk h1 x.ci, keep_cell2 hk h2 x.cf, keep_cell2 hk h2 x.cd⟩
/-- The comparison that order sorts by. -/
theorem less_cmp {p : Pos} {bg bs be B b : Nat} {h : Bool} {f d : Int} {xs : List Mv} {w : World} (hbd : isBoard p.cells = true) (hxs : ∀ m ∈ xs, m.2 < 90) (hx : GainAt w bs be B p h f d)
    (hg : w.cell? ⟨bg, 0, none⟩ = some (.func (.func 71) #[] #[.pointer (some ⟨bs, 0, none⟩), .pointer (some ⟨be, 0, none⟩), .pointer (some ⟨B, 0, none⟩)]))
    (h0 : bg ≠ b) (h1 : bs ≠ b) (h2 : be ≠ b) (h3 : B ≠ b) :
    CmpM 75 #[.pointer (some ⟨bg, 0, none⟩)] (lessI p h f d) xs b w := by
  intro W x y hx1 hy1 hk
  exact less_c p bg bs be B h f d x y hbd (hxs x hx1) (hxs y hy1) W (hx.keep hk h1 h2 h3) (keep_cell2 hk h0 hg)
end Go.Proofs.YtafmapadkpjliaaGreatDoor.K

/- The table: its slots; New; a key's slot. -/
namespace Go.Proofs.YtafmapadkpjliaaGreatDoor.P
open Go.RowKit Go.Lib Go.Proofs.YtafmapadkpjliaaGreatDoorW.PrintWords Go.Proofs.YtafmapadkpjliaaGreatDoorW.PrintLast Go.Proofs.YtafmapadkpjliaaGreatDoorW.PrintMore
set_option linter.unusedVariables false
/-- An entry: key, depth, score, how sure, from, to. -/
structure Ent where
  key : Int
  depth : Int
  score : Int
  sure : Int
  frm : Int
  dest : Int
deriving DecidableEq
/-- The cells of a slot. -/
def slotC : Option Ent → List Value
  | none => [.int .u64 0, .int .i64 0, .int .i64 0, .int .i64 0, .int .i64 0, .int .i64 0, .bool false]
  | some e => [.int .u64 e.key, .int .i64 e.depth, .int .i64 e.score, .int .i64 e.sure, .int .i64 e.frm, .int .i64 e.dest, .bool true]
theorem slotC_len (x : Option Ent) : (slotC x).length = 7 := by cases x <;> rfl
/-- A table of n slots in block b, its slots in block sb: T tells what is in each, c how many are full. -/
structure TabAt (W : World) (b sb n : Nat) (T : Nat → Option Ent) (c : Nat) : Prop where
  ptr : W.cell? ⟨b, 0, none⟩ = some (.slice (some ⟨sb, 0, none⟩) n n)
  cnt : W.cell? ⟨b, 1, none⟩ = some (.int .i64 (c : Int))
  fz : W.frozen? ⟨b, 1, none⟩ = false
  cells : ∀ i j, i < n → j < 7 → W.cell? ⟨sb, i * 7 + j, none⟩ = (slotC (T i))[j]?
  fzs : ∀ i, W.frozen? ⟨sb, i, none⟩ = false
  ne : b ≠ sb
  pos : 0 < n
  most : n ≤ 4096
theorem slot_walk (w : World) (b sb n cap : Nat) (key : Int) (h0 : w.cell? ⟨b, 0, none⟩ = some (.slice (some ⟨sb, 0, none⟩) n cap)) (hn : 0 < n) (hn2 : n < 1000000) (hk : 0 ≤ key) :
  Calls Tryz.prog 78 #[.pointer (some ⟨b, 0, none⟩), .int .u64 key] w fun e w' => e = .returned (.pointer (some ⟨sb, 7 * (key.tmod n).toNat, none⟩)) ∧ Drawn0 w w' := by
  have hu : IntKind.u64.wrap (n : Int) = (n : Int) := by unfold IntKind.wrap; simp [IntKind.signed, IntKind.bits]; omega
  have hz : ((n : Int) == 0) = false := beq_eq_false_iff_ne.2 (by omega)
  have hz1 : ((n : Int) = 0) = False := eq_false (by omega)
  have hz2 : (n = 0) = False := eq_false (by omega)
  have hr : IntKind.u64.wrap (key.tmod n) = key.tmod n := by
    have h1 := Int.tmod_lt_of_pos key (b := (n : Int)) (by omega)
    have h2 := Int.tmod_nonneg (n : Int) hk
    unfold IntKind.wrap; simp [IntKind.signed, IntKind.bits]; omega
  have hm : (0 ≤ key.tmod n) = True := eq_true (Int.tmod_nonneg _ hk)
  have hm2 : (key.tmod n < n) = True := eq_true (Int.tmod_lt_of_pos _ (by omega))
  go_enter Tryz.func78, Tryz.ntmps78
  go_wp2
  go_region_held3 (fun w' => w'.cell? ⟨b, 0, none⟩ = some (.slice (some ⟨sb, 0, none⟩) n cap)) (go_keep) (fail)
  go_wp2
  go_ret
  exact ⟨by rw [Nat.mul_comm]; rfl, ⟨1, rfl⟩⟩
abbrev zeroE : Value := .agg #[.int .u64 0, .int .i64 0, .int .i64 0, .int .i64 0, .int .i64 0, .int .i64 0, .bool false]
theorem info_slot : (Tryz.prog.info? 111).map (fun i => (i.zero, i.size, i.bytes)) = some (some zeroE, 7, 56) := by kernel_rfl
theorem zero_cells : zeroE.cells = #[.int .u64 0, .int .i64 0, .int .i64 0, .int .i64 0, .int .i64 0, .int .i64 0, .bool false] := rfl
theorem made (n : Nat) (hn : n ≤ 4096) (W : World) : (Instr.makeSlice 59 (.int .i64 (n : Int)) (.int .i64 (n : Int))).run Tryz.prog W = .ok (.slice (some ⟨W.heap.size, 0, none⟩) n n) (W.alloc (.cells (madeCells zeroE.cells (n * 7)) 111)) := by
  obtain ⟨i, hi, hz, hs, hb⟩ := info_parts info_slot
  have h := run_make (P := Tryz.prog) W 59 111 i zeroE Tryz.underlying59 hi hz .i64 .i64 n n (by omega) (Int.le_refl _) (by rw [hb]; omega) (by omega)
  rw [hs] at h
  simpa using h
theorem new_walk (w : World) (n : Nat) (h1 : decide ((n : Int) < 1) = false) (h2 : decide ((4096 : Int) < (n : Int)) = false) :
  Calls Tryz.prog 11 #[.int .i64 n] w fun e w' => e = .returned (.tuple #[.pointer (some ⟨w.heap.size + 1, 0, none⟩), .int .i64 0]) ∧ TabAt w' (w.heap.size + 1) w.heap.size n (fun _ => none) 0 ∧ Below w.heap.size w w' := by
  have hn : n ≤ 4096 := by have := of_decide_eq_false h2; omega
  have hp : 0 < n := by have := of_decide_eq_false h1; omega
  have km := fun W => made n hn W
  go_enter Tryz.func11, Tryz.ntmps11
  go_wp2
  go_ret2
  refine ⟨rfl, ⟨?_, ?_, ?_, ?_, ?_, by omega, hp, hn⟩, ?_⟩
  · simp
  · simp
  · simp
  · intro i j hi hj
    rw [World.cell?_alloc2_first]
    have hlt : i * 7 + j < n * 7 := by omega
    have hj' : (i * 7 + j) % 7 = j := by omega
    simp only [madeCells, Array.getElem?_map, Array.getElem?_range]
    rw [if_pos hlt]
    simp only [Option.map_some]
    have : j = 0 ∨ j = 1 ∨ j = 2 ∨ j = 3 ∨ j = 4 ∨ j = 5 ∨ j = 6 := by omega
    simp only [show (#[Value.int .u64 0, .int .i64 0, .int .i64 0, .int .i64 0, .int .i64 0, .int .i64 0, .bool false] : Array Value).size = 7 from rfl, hj']
    rcases this with rfl | rfl | rfl | rfl | rfl | rfl | rfl <;> rfl
  · intro i; simp
  · exact below_alloc (below_alloc (Below.refl _ _) _) _
end Go.Proofs.YtafmapadkpjliaaGreatDoor.P
