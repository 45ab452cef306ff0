/- Walks and plain laws that several statements lean on, joined: no statement of the seat is proved here. -/
import Derived.Deep.AppendLies
import Derived.Deep.LoopGhost
import Derived.Test.YtllbkppdkldmiaaGreatDoorB5
import Derived.Test.YtllbkppdkldmiaaGreatDoorB2

/- Walks: In, Well. -/
namespace Go.Proofs.YtllbkppdkldmiaaGreatDoor.K
open Go.RowKit Go.Lib Go.Proofs.YtllbkppdkldmiaaGreatDoorW.PrintWords Go.Proofs.YtllbkppdkldmiaaGreatDoor.Sp
set_option linter.unusedVariables false
set_option linter.unusedSimpArgs false
def inS (s : ByteArray) (a : Int) : Bool := decide (0 ≤ genS s a) && decide (0 < (attS s (genS s a) (1 - a)).length)
theorem attS_len (s : ByteArray) (n a : Int) : (attS s n a).length ≤ 90 := by
  unfold attS
  split
  · refine Nat.le_trans (List.length_filter_le _ _) ?_
    unfold piecesS
    split
    · refine Nat.le_trans (List.length_filter_le _ _) ?_
      simp
    · simp
  · simp
set_option maxRecDepth 100000 in
set_option maxHeartbeats 2000000 in
theorem in_c (s : ByteArray) (a : Int) (w : World) (hT : TabW w) : Calls Tryz.prog 24 #[.string s, .int .i64 a] w fun e w' => e = .returned (.bool (inS s a)) ∧ Below w.heap.size w w' := by
  have HT := Aside0.mk (fun (W : World) (hb : Below w.heap.size w W) => hT.below hb)
  have HG := Aside0.mk (gen_c s a w hT)
  have HA := Aside0.mk (fun (W : World) (hT : TabW W) => att_c s (genS s a) (1 - a) W hT)
  have HE := Aside0.mk (show inS s a = (decide (0 ≤ genS s a) && decide (0 < (attS s (genS s a) (1 - a)).length)) from rfl)
  clear hT
  cases h0 : decide (0 ≤ genS s a)
  case false =>
    rw [h0] at HE
    have hn := of_decide_eq_false h0
    generalize genS s a = g at *
    clear HA
    go_enter Tryz.func24, Tryz.ntmps24
    go_wp2_with (go_at_call 20; refine HG.out.mono ?_; rintro e w1 ⟨rfl, hb⟩; have HB := Aside0.mk hb; clear hb)
    go_ret
    exact ⟨by rw [HE.out]; rfl, HB.out⟩
  case true =>
    rw [h0] at HE
    have hn := of_decide_eq_true h0
    have ha : a = 0 ∨ a = 1 := by
      by_cases ha : a = 0 ∨ a = 1
      · exact ha
      · unfold genS at hn; rw [if_neg ha] at hn; omega
    have a0 : 0 ≤ a := by omega
    have a1 : a ≤ 1 := by omega
    have hl := attS_len s (genS s a) (1 - a)
    generalize attS s (genS s a) (1 - a) = l at *
    generalize genS s a = g at *
    have HL := Aside0.mk hl
    have hl2 : (l.length : Int) ≤ 90 := by omega
    generalize hb1 : (1 - a : Int) = b at *
    clear hl ha h0
    go_enter Tryz.func24, Tryz.ntmps24
    go_wp2_with (first
      | (go_at_call 20; refine HG.out.mono ?_; rintro e w1 ⟨rfl, hb⟩; have HB := Aside0.mk hb; clear hb)
      | (go_at_call 18; refine (HA.out _ (HT.out _ HB.out)).mono ?_; rintro e w2 ⟨v, rfl, hv, hb⟩; have HC := Aside0.mk (HB.out.trans (hb.mono HB.out.size)); clear hb; obtain ⟨A, cap, hv', _⟩ := hv.out; subst hv'; clear hv))
    go_ret
    refine ⟨ret_bool ?_, HC.out⟩
    rw [HE.out]
    first | (simp; done) | (simp; omega)
/-- What is wrong with a position. -/
def wellS (p : Pos) : Int := if checkP p ≠ 0 then checkP p else if facS p.cells = true then 4 else if inS p.cells (1 - p.side) = true then 5 else 0
/-- The box of Well's argument. -/
structure WeAt (w0 W : World) (p : Pos) : Prop where
  c0 : W.cell? ⟨w0.heap.size, 0, none⟩ = some (.string p.cells)
  c1 : W.cell? ⟨w0.heap.size, 1, none⟩ = some (.int .i64 p.side)
  c2 : W.cell? ⟨w0.heap.size, 2, none⟩ = some (.int .i64 p.clock)
  c3 : W.cell? ⟨w0.heap.size, 3, none⟩ = some (.int .i64 p.full)
  bel : Below w0.heap.size w0 W
theorem WeAt.below {w0 W W' : World} {p : Pos} (h : WeAt w0 W p) (hb : Below W.heap.size W W') : WeAt w0 W' p := by
  have hl := World.block_lt_of_cell? W _ h.c0
  exact ⟨(hb.cell (p := ⟨w0.heap.size, 0, none⟩) hl).trans h.c0, (hb.cell (p := ⟨w0.heap.size, 1, none⟩) hl).trans h.c1, (hb.cell (p := ⟨w0.heap.size, 2, none⟩) hl).trans h.c2, (hb.cell (p := ⟨w0.heap.size, 3, none⟩) hl).trans h.c3, h.bel.trans (hb.mono h.bel.size)⟩
theorem WeAt.new (w : World) (p : Pos) : WeAt w (w.alloc (.cells #[.string p.cells, .int .i64 p.side, .int .i64 p.clock, .int .i64 p.full] 33)) p :=
  ⟨by simp [World.cell?_alloc_at], by simp [World.cell?_alloc_at], by simp [World.cell?_alloc_at], by simp [World.cell?_alloc_at], below_alloc (Below.refl _ _) _⟩
set_option maxRecDepth 100000 in
set_option maxHeartbeats 2000000 in
theorem well_c (p : Pos) (w : World) (hT : TabW w) : Calls Tryz.prog 31 #[posV p] w fun e w' => e = .returned (.int .i64 (wellS p)) ∧ Below w.heap.size w w' := by
  have HT := Aside0.mk (fun (W : World) (hb : Below w.heap.size w W) => hT.below hb)
  have HK := Aside0.mk (fun W => check_c p W)
  have HF := Aside0.mk (fun (W : World) (hT : TabW W) => fac_c p.cells W hT)
  have HI := Aside0.mk (fun (W : World) (hT : TabW W) => in_c p.cells (1 - p.side) W hT)
  have HE := Aside0.mk (show wellS p = if checkP p ≠ 0 then checkP p else if facS p.cells = true then 4 else if inS p.cells (1 - p.side) = true then 5 else 0 from rfl)
  have hu := Tryz.underlying33
  have HW := Aside0.mk (WeAt.new w p)
  clear hT
  by_cases hck : checkP p = 0
  case neg =>
    have h2 : (checkP p != 0) = true := by simpa using hck
    rw [if_pos hck] at HE
    clear hck HF HI
    generalize checkP p = ck at *
    go_enter Tryz.func31, Tryz.ntmps31
    go_wp2_with (go_at_call 68; refine (HK.out _).mono ?_; rintro e w1 ⟨rfl, hb⟩; have HB := Aside0.mk (HW.out.bel.trans (hb.mono HW.out.bel.size)); clear hb)
    go_ret
    exact ⟨ret_int HE.out.symm, HB.out⟩
  case pos =>
    rw [if_neg (by simpa using hck)] at HE
    have hsd : p.side = 0 ∨ p.side = 1 := by
      cases hok : argOk p
      · unfold checkP at hck; rw [hok] at hck; simp at hck
      · exact (argOk_yes hok).2.1
    have a0 : 0 ≤ p.side := by omega
    have a1 : p.side ≤ 1 := by omega
    rw [hck] at HK
    clear hck hsd
    generalize hb1 : (1 - p.side : Int) = b at *
    cases hf : facS p.cells
    case true =>
      rw [hf] at HF HE
      clear HI hf
      go_enter Tryz.func31, Tryz.ntmps31
      go_wp2_with (first
        | (go_at_call 68; refine (HK.out _).mono ?_; rintro e w1 ⟨rfl, hb⟩; have HB := Aside0.mk (HW.out.below hb); clear hb; obtain ⟨c0, c1, _⟩ := HB.out)
        | (go_at_call 22; refine (HF.out _ (HT.out _ HB.out.bel)).mono ?_; rintro e w2 ⟨rfl, hb⟩; have HC := Aside0.mk (HB.out.below hb); clear hb c0 c1))
      go_ret
      exact ⟨ret_int (by rw [HE.out]; rfl), HC.out.bel⟩
    case false =>
      rw [hf] at HF HE
      cases hi : inS p.cells b
      all_goals
        rw [hi] at HI HE
        clear hf hi
        go_enter Tryz.func31, Tryz.ntmps31
        go_wp2_with (first
          | (go_at_call 68; refine (HK.out _).mono ?_; rintro e w1 ⟨rfl, hb⟩; have HB := Aside0.mk (HW.out.below hb); clear hb; obtain ⟨c0, c1, _⟩ := HB.out)
          | (go_at_call 22; refine (HF.out _ (HT.out _ HB.out.bel)).mono ?_; rintro e w2 ⟨rfl, hb⟩; have HC := Aside0.mk (HB.out.below hb); clear hb c0 c1; obtain ⟨c0, c1, _⟩ := HC.out)
          | (go_at_call 24; refine (HI.out _ (HT.out _ HC.out.bel)).mono ?_; rintro e w3 ⟨rfl, hb⟩; have HD := Aside0.mk (HC.out.below hb); clear hb c0 c1))
        go_ret
        exact ⟨ret_int (by rw [HE.out]; rfl), HD.out.bel⟩
end Go.Proofs.YtllbkppdkldmiaaGreatDoor.K

/- Plain law: a text with a byte on a square. -/
namespace Go.Proofs.YtllbkppdkldmiaaGreatDoor.K
open Go.RowKit Go.Lib Go.Proofs.YtllbkppdkldmiaaGreatDoorW.PrintWords Go.Proofs.YtllbkppdkldmiaaGreatDoor.Sp
set_option linter.unusedVariables false
theorem bytes_back (s : ByteArray) : (bytesOf s).map (fun n => UInt8.ofNat n.toNat) = s.data.toList := by
  unfold bytesOf
  rw [List.map_map]
  conv => rhs; rw [← List.map_id s.data.toList]
  refine List.map_congr_left fun b _ => ?_
  simp
theorem put_list (s : ByteArray) (n c : Nat) : (putT s n c).data.toList = s.data.toList.set n (UInt8.ofNat c) := by
  unfold putT strOfNums
  show (((bytesOf s).set n (c : Int)).map (fun n => UInt8.ofNat n.toNat)) = _
  rw [List.map_set, bytes_back]
  simp
theorem put_cat (s : ByteArray) (hz : s.size = 90) (n c : Nat) (hn : n < 90) : s.extract 0 n ++ strOfNums [(c : Int)] ++ s.extract (n + 1) 90 = putT s n c := by
  have hl : s.data.toList.length = 90 := hz
  apply ByteArray.ext
  apply Array.ext'
  rw [put_list, List.set_eq_take_append_cons_drop, if_pos (by rw [hl]; exact hn)]
  have e1 : (strOfNums [(c : Int)]).data.toList = [UInt8.ofNat c] := by simp [strOfNums]
  simp only [ByteArray.data_append, Array.toList_append, ByteArray.data_extract, Array.toList_extract, e1]
  simp
  exact List.take_of_length_le (by rw [List.length_drop, hl]; omega)
theorem putT_size (s : ByteArray) (n c : Nat) : (putT s n c).size = s.size := by
  have := congrArg List.length (put_list s n c)
  rw [List.length_set] at this
  exact this
theorem cel_list (s : ByteArray) (i : Nat) (h : i < s.data.toList.length) : cel s i = (s.data.toList[i]).toNat := by
  have h2 : i < s.size := h
  rw [← cel_get s i h2]
  rfl
theorem putT_cel (s : ByteArray) (n c i : Nat) (hc : c < 256) (hi : i < s.size) : cel (putT s n c) i = if i = n then c else cel s i := by
  have h1 : i < (putT s n c).data.toList.length := by rw [put_list, List.length_set]; exact hi
  have h2 : i < s.data.toList.length := hi
  rw [cel_list _ i h1, cel_list s i h2]
  simp only [put_list, List.getElem_set]
  by_cases h : n = i
  · rw [if_pos h, if_pos h.symm]
    simp; omega
  · rw [if_neg h, if_neg (Ne.symm h)]
theorem putT_board (s : ByteArray) (hs : isBoard s = true) (n c : Nat) (hc : cellB c = true) (hc2 : c < 256) : isBoard (putT s n c) = true := by
  have hz := board_size hs
  rw [board_iff _ (by rw [putT_size]; exact hz)]
  intro i hi
  rw [putT_cel s n c i hc2 (by omega)]
  split
  · exact hc
  · exact (board_iff s hz).1 hs i hi
end Go.Proofs.YtllbkppdkldmiaaGreatDoor.K

/- Walks: pseudo.gather, Moves, Captures. -/
namespace Go.Proofs.YtllbkppdkldmiaaGreatDoor.K
open Go.RowKit Go.Lib Go.Proofs.YtllbkppdkldmiaaGreatDoorW.PrintWords Go.Proofs.YtllbkppdkldmiaaGreatDoor.Sp
set_option linter.unusedVariables false
set_option linter.unusedSimpArgs false
attribute [local go_sem] cel_get   -- for this text's walks alone
abbrev Mv := Nat × Nat
def mvC (m : Mv) : List Value := [.int .i64 (m.1 : Int), .int .i64 (m.2 : Int)]
def flatM (l : List Mv) : List Value := l.flatMap mvC
theorem flatM_len (l : List Mv) : (flatM l).length = l.length * 2 := by
  induction l with
  | nil => rfl
  | cons x r ih => simp only [flatM, List.flatMap_cons, List.length_append, List.length_cons] at *; simp [mvC, ih]; omega
theorem flatM_append (l : List Mv) (x : Mv) : flatM (l ++ [x]) = flatM l ++ mvC x := by simp [flatM]
theorem flatM_get (l : List Mv) (i j : Nat) (hi : i < l.length) (hj : j < 2) : (flatM l)[i * 2 + j]? = (mvC l[i])[j]? := by
  induction l generalizing i with
  | nil => simp at hi
  | cons x r ih =>
    have hl : (mvC x).length = 2 := rfl
    cases i with
    | zero =>
      simp only [flatM, List.flatMap_cons]
      rw [List.getElem?_append_left (by rw [hl]; omega)]
      simp
    | succ i =>
      simp only [flatM, List.flatMap_cons]
      rw [List.getElem?_append_right (by rw [hl]; omega), hl, show (i + 1) * 2 + j - 2 = i * 2 + j by omega]
      exact ih i (by simpa using hi)
/-- A row of moves of the call's own, from block B on. -/
def OwnM (W : World) (B : Nat) (v : Value) (l : List Mv) : Prop := W.ownsRow B 49 2 v l.length (flatM l)
theorem OwnM.below {W W' : World} {B : Nat} {v : Value} {l : List Mv} (h : OwnM W B v l) (hb : Below W.heap.size W W') : OwnM W' B v l := pw_own_below h hb
theorem OwnM.lower {W : World} {B B' : Nat} {v : Value} {l : List Mv} (h : OwnM W B v l) (hb : B' ≤ B) : OwnM W B' v l := by
  obtain ⟨h1, h2 | ⟨g, cap, cur, h2, h3, h4⟩⟩ := h
  · exact ⟨h1, .inl h2⟩
  · exact ⟨h1, .inr ⟨g, cap, cur, h2, Nat.le_trans hb h3, h4⟩⟩
/-- The moves from a square. -/
def fromM (s : ByteArray) (side : Int) (q : Nat → Bool) (a : Nat) : List Mv := if sideN (cel s a) = side then ((allN (cel s) a).filter (fun b => q (cel s b))).map (fun b => (a, b)) else []
def gathM (s : ByteArray) (side : Int) (q : Nat → Bool) (n : Nat) : List Mv := (List.range n).flatMap (fromM s side q)
theorem gathM_succ (s : ByteArray) (side : Int) (q : Nat → Bool) (n : Nat) : gathM s side q (n + 1) = gathM s side q n ++ fromM s side q n := by
  unfold gathM; rw [List.range_succ, List.flatMap_append]; simp
theorem allN_len (c : Nat → Nat) (a : Nat) : (allN c a).length ≤ 90 := by
  unfold allN; exact Nat.le_trans (List.length_filter_le _ _) (by simp)
theorem allN_lt (c : Nat → Nat) (a : Nat) : ∀ b ∈ allN c a, b < 90 := by
  intro b hb; unfold allN at hb; exact List.mem_range.1 (List.mem_filter.1 hb).1
theorem fromM_len (s : ByteArray) (side : Int) (q : Nat → Bool) (a : Nat) : (fromM s side q a).length ≤ 90 := by
  unfold fromM; split
  · rw [List.length_map]; exact Nat.le_trans (List.length_filter_le _ _) (allN_len _ _)
  · simp
theorem gathM_len (s : ByteArray) (side : Int) (q : Nat → Bool) (n : Nat) : (gathM s side q n).length ≤ 90 * n := by
  induction n with
  | zero => simp [gathM]
  | succ n ih => rw [gathM_succ, List.length_append]; have := fromM_len s side q n; omega
/-- The moves of a position to squares where something is so. -/
def gathP (p : Pos) (q : Nat → Bool) : List Mv := if checkP p = 0 then gathM p.cells p.side q 90 else []
/-- The first j of the moves from a square. -/
def partM (s : ByteArray) (q : Nat → Bool) (a j : Nat) : List Mv := (((allN (cel s) a).take j).filter (fun b => q (cel s b))).map (fun b => (a, b))
theorem partM_succ (s : ByteArray) (q : Nat → Bool) (a j : Nat) (h : j < (allN (cel s) a).length) : partM s q a (j + 1) = partM s q a j ++ (if q (cel s (allN (cel s) a)[j]) = true then [(a, (allN (cel s) a)[j])] else []) := by
  unfold partM
  rw [List.take_succ_eq_append_getElem h, List.filter_append, List.map_append]
  congr 1
  split <;> simp_all
theorem partM_len (s : ByteArray) (q : Nat → Bool) (a j : Nat) : (partM s q a j).length ≤ 90 := by
  unfold partM
  rw [List.length_map]
  exact Nat.le_trans (List.length_filter_le _ _) (by rw [List.length_take]; have := allN_len (cel s) a; omega)
theorem info_move : (Tryz.prog.info? 49).map (fun i => (i.zero, i.size, i.bytes)) = some (some (.agg #[.int .i64 0, .int .i64 0]), 2, 16) := by kernel_rfl
/-- What gather's loops keep. -/
structure GathAt (w0 W : World) (p : Pos) (v : Value) (l : List Mv) : Prop where
  c0 : W.cell? ⟨w0.heap.size, 0, none⟩ = some (.string p.cells)
  c1 : W.cell? ⟨w0.heap.size, 1, none⟩ = some (.int .i64 p.side)
  own : OwnM W (w0.heap.size + 1) v l
  bel : Below w0.heap.size w0 W
  lt : w0.heap.size < W.heap.size
theorem GathAt.below {w0 W W' : World} {p : Pos} {v : Value} {l : List Mv} (h : GathAt w0 W p v l) (hb : Below W.heap.size W W') : GathAt w0 W' p v l :=
  ⟨(hb.cell (p := ⟨w0.heap.size, 0, none⟩) h.lt).trans h.c0, (hb.cell (p := ⟨w0.heap.size, 1, none⟩) h.lt).trans h.c1, h.own.below hb, h.bel.trans (hb.mono h.bel.size), Nat.lt_of_lt_of_le h.lt hb.size⟩
/-- Behind an append. -/
theorem GathAt.grown {w0 W W1 : World} {p : Pos} {v v1 : Value} {l l1 : List Mv} (h : GathAt w0 W p v l) (hg : W.grownBy W1 v.ownBlock) (ho : OwnM W1 (w0.heap.size + 1) v1 l1) : GathAt w0 W1 p v1 l1 := by
  have hne : some w0.heap.size ≠ v.ownBlock := fun he => by have := own_base h.own _ he.symm; omega
  exact ⟨(hg.cell_far ⟨w0.heap.size, 0, none⟩ h.lt hne).trans h.c0, (hg.cell_far ⟨w0.heap.size, 1, none⟩ h.lt hne).trans h.c1, ho, h.bel.grown hg (Nat.le_of_lt h.lt) (fun k hk => by have := own_base h.own k hk; omega), Nat.lt_of_lt_of_le h.lt hg.size⟩
theorem below_cell {W w1 : World} (hb : Below W.heap.size W w1) (g o : Nat) (v : Value) (h : W.cell? ⟨g, o, none⟩ = some v) : w1.cell? ⟨g, o, none⟩ = some v :=
  (hb.cell (p := ⟨g, o, none⟩) (World.block_lt_of_cell? W _ h)).trans h
def Hold (P : Prop) : Prop := P
theorem hold {P : Prop} (h : Hold P) : P := h
theorem Hold.go {P : Prop} (h : P) : Hold P := h
theorem news_own (w : World) (B : Obj) : (w.alloc B).heap[w.heap.size]? = some B := by show (w.heap.push B)[w.heap.size]? = _; simp
/-- All's row beside the moves' row. -/
structure AllAt (W : World) (A : Option Addr) (l : List Nat) (s : Value) : Prop where mk ::
  out : l = [] ∨ ∃ g, A = some ⟨g, 0, none⟩ ∧ g < W.heap.size ∧ s.ownBlock ≠ some g ∧ ∀ i (h : i < l.length), W.cell? ⟨g, i, none⟩ = some (.int .i64 (l[i] : Int))
theorem AllAt.at {W : World} {A : Option Addr} {l : List Nat} {s : Value} (h : AllAt W A l s) {j : Nat} (hj : j < l.length) : ∃ g, A = some ⟨g, 0, none⟩ ∧ g < W.heap.size ∧ s.ownBlock ≠ some g ∧ ∀ i (h : i < l.length), W.cell? ⟨g, i, none⟩ = some (.int .i64 (l[i] : Int)) := by
  rcases h.out with h | h
  · subst h; simp at hj
  · exact h
theorem AllAt.below {W W' : World} {A : Option Addr} {l : List Nat} {s : Value} (h : AllAt W A l s) (hb : Below W.heap.size W W') : AllAt W' A l s := by
  rcases h.out with h | ⟨g, hA, h1, h2, h3⟩
  · exact ⟨.inl h⟩
  · exact ⟨.inr ⟨g, hA, Nat.lt_of_lt_of_le h1 hb.size, h2, fun i hi => (hb.cell (p := ⟨g, i, none⟩) h1).trans (h3 i hi)⟩⟩
set_option maxRecDepth 100000 in
set_option maxHeartbeats 4000000 in
theorem gather_c (p : Pos) (g : Nat) (q : Nat → Bool) (hq : ∀ (W : World) (x : Nat), x < 256 → Calls Tryz.prog g #[.int .u8 (x : Int)] W fun e w' => e = .returned (.bool (q x)) ∧ w' = W)
    (eg : ∀ args w, (callFunc g args).run Tryz.prog w = .ok (.enter g args) w) (w : World) :
    Calls Tryz.prog 110 #[posV p, .func (.func g) #[] #[]] w fun e w' => ∃ v, e = .returned v ∧ OwnM w' w.heap.size v (gathP p q) ∧ Below w.heap.size w w' := by
  have HCK := Aside0.mk (fun W => check_c p W)
  have hu := Tryz.underlying33
  by_cases hck : checkP p = 0
  case neg =>
    rw [show gathP p q = [] by unfold gathP; rw [if_neg hck]]
    have h1 : (checkP p == 0) = false := by simpa using hck
    have h2 : (checkP p != 0) = true := by simpa using hck
    clear hck
    generalize checkP p = ck at HCK h1 h2
    go_enter Tryz.func110, Tryz.ntmps110
    go_wp2_with fail
    go_step3
    go_wp2_with fail
    refine (HCK.out _).mono ?_
    rintro e w1 ⟨rfl, hb⟩
    have HB := Aside0.mk ((below_alloc (Below.refl w.heap.size w) _).trans (hb.mono (by simp)))
    clear hb
    go_wp2_with fail
    rw [Exit.noGoto_ret]
    go_ret
    exact ⟨_, rfl, own_nil _ _ _ _, HB.out⟩
  rw [hck] at HCK
  have HGP := Aside0.mk (show gathP p q = gathM p.cells p.side q 90 by unfold gathP; rw [if_pos hck])
  have hbd : isBoard p.cells = true := by
    unfold checkP at hck
    cases ha : argOk p
    · rw [ha] at hck; simp at hck
    · exact (argOk_yes ha).1
  have HBD := Aside0.mk hbd
  have HSZ := Aside0.mk (board_size hbd)
  clear hck hbd
  go_enter Tryz.func110, Tryz.ntmps110
  go_wp2_with fail
  go_step3
  go_wp2_with fail
  refine (HCK.out _).mono ?_
  rintro e w1 ⟨rfl, hb⟩
  have HG0 : Aside0 (GathAt w w1 p (.slice none 0 0) []) := ⟨⟨(hb.cell (p := ⟨w.heap.size, 0, none⟩) (by simp)).trans (by simp), (hb.cell (p := ⟨w.heap.size, 1, none⟩) (by simp)).trans (by simp), own_nil _ _ _ _, (below_alloc (Below.refl w.heap.size w) _).trans (hb.mono (by simp)), by have := hb.size; simp at this; omega⟩⟩
  clear hb HCK
  go_wp2_with fail
  go_step3
  go_wp2_with fail
  obtain ⟨i0, hi0, hx⟩ := Option.map_eq_some_iff.1 info_move
  simp only [Prod.mk.injEq] at hx
  have HZ := Aside0.mk (⟨hi0, hx⟩ : _ ∧ _)
  clear hx hi0
  have HALL := Aside0.mk (fun (a : Nat) (W : World) => all_c p.cells a W)
  have HSID := Aside0.mk (fun (a : Nat) W => side_c (cel p.cells a) W)
  go_loopg [5, 12] 90 (fun gg s5 s12 wr => ∃ i : Nat, s12 = .int .i64 i ∧ i + gg = 90 ∧ Aside0 (GathAt w wr p s5 (gathM p.cells p.side q i)))
  case atStart => exact ⟨0, rfl, by omega, HG0⟩
  case round =>
    obtain ⟨i, rfl, hi, HG⟩ := hrel
    cases gk with
    | zero =>
      have hn : ¬ ((i : Int) < 90) := by omega
      have HI := Aside0.mk (show i = 90 by omega)
      clear hi
      go_wp2_with fail
      go_ret
      refine ⟨_, rfl, ?_, HG.out.bel⟩
      rw [HGP.out, ← HI.out]
      exact HG.out.own.lower (by omega)
    | succ g2 =>
      have hn : ((i : Int) < 90) := by omega
      have HI := Aside0.mk (show i + 1 + g2 = 90 by omega)
      have HC0 := Aside0.mk HG.out.c0
      have HC1 := Aside0.mk HG.out.c1
      have hcs : cel p.cells i < 256 := cel_lt _ _
      have hsz : (i : Int) < p.cells.size := by rw [HSZ.out]; omega
      clear hi
      go_wp2_with fail
      have c0 := HC0.out
      have c1 := HC1.out
      go_quiet (first | (go_at_call 26; exact Calls.quiet_of_same (HSID.out _ hcs _)))
      have HG2 := Aside0.mk (HG.out.below (pw_below_drewN (Below.refl _ _) nq))
      have HG := HG2
      clear HG2 HC0 HC1 c0 c1
      generalize wr.drewN nq = wr at *
      cases hsd : (sideN (cel p.cells i) != p.side)
      case true =>
        have HF := Aside0.mk (show fromM p.cells p.side q i = [] by unfold fromM; rw [if_neg (by simpa using hsd)])
        go_wp2_with fail
        go_roundg g2
        case measure => omega
        case rel => 
          refine ⟨i + 1, rfl, HI.out, Aside0.mk ?_⟩
          rw [gathM_succ, HF.out, List.append_nil]
          exact HG.out
      case false =>
      have HF := Aside0.mk (show fromM p.cells p.side q i = partM p.cells q i (allN (cel p.cells) i).length by unfold fromM partM; rw [if_pos (by simpa using hsd), List.take_length])
      have c0 := HG.out.c0
      go_wp2_with fail
      refine (HALL.out i _).mono ?_
      rintro e w2 ⟨v, rfl, HI2, hb⟩
      have ha : allS p.cells (i : Int) = allN (cel p.cells) i := by unfold allS; rw [if_pos ⟨HBD.out, by omega, by omega⟩]; rfl
      rw [ha] at HI2
      obtain ⟨A, cap, rfl, hcap, hA⟩ := HI2.out
      have HG1 := Aside0.mk (HG.out.below hb)
      have HAL : Aside0 (AllAt w2 A (allN (cel p.cells) i) u5) := by
        rcases hA with hA | ⟨g', rfl, h1, h2, h3⟩
        · exact Aside0.mk ⟨.inl hA⟩
        · exact Aside0.mk ⟨.inr ⟨g', rfl, h2, fun he => by have := (HG.out.own.lt g' he).2; omega, h3⟩⟩
      clear hA HI2 c0 ha
      have HLL := Aside0.mk (allN_lt (cel p.cells) i)
      have HL90 := Aside0.mk (allN_len (cel p.cells) i)
      generalize hl : allN (cel p.cells) i = l at *
      have hm : (l.length : Int) ≤ 90 := by have := HL90.out; omega
      go_wp2_with fail
      go_loopg [28, 5] l.length (fun gg s28 s5 wr => ∃ j : Nat, s28 = .int .i64 j ∧ j + gg = l.length ∧ Aside0 (GathAt w wr p s5 (gathM p.cells p.side q i ++ partM p.cells q i j)) ∧ Aside0 (AllAt wr A l s5))
      case atStart => exact ⟨0, rfl, by omega, Aside0.mk (by rw [show partM p.cells q i 0 = [] by simp [partM], List.append_nil]; exact HG1.out), HAL⟩
      case round =>
      clear HG HG1 HAL
      obtain ⟨j, rfl, hj, HG, HAL⟩ := hrel
      cases gk with
      | zero =>
        have hjn : ¬ ((j : Int) < (l.length : Int)) := by omega
        have HJ := Aside0.mk (show j = l.length by omega)
        clear hj
        go_wp2_with fail
        go_roundg g2
        case measure => omega
        case rel =>
          refine ⟨i + 1, rfl, HI.out, Aside0.mk ?_⟩
          rw [gathM_succ, HF.out, ← HJ.out]
          exact HG.out
      | succ g3 =>
        have hjn : ((j : Int) < (l.length : Int)) := by omega
        have hjl : j < l.length := by omega
        have HJ := Aside0.mk (show j + 1 + g3 = l.length by omega)
        obtain ⟨g', rfl, h1, h2, h3⟩ := HAL.out.at hjl
        have cj := h3 j hjl
        have HXL := Aside0.mk (HLL.out _ (List.getElem_mem hjl))
        have HPS := Aside0.mk (partM_succ p.cells q i j (by rw [hl]; exact hjl))
        simp only [hl] at HPS
        generalize l[j] = x at *
        have c0 := HG.out.c0
        have hcs2 : cel p.cells x < 256 := cel_lt _ _
        have hsz2 : (x : Int) < p.cells.size := by rw [HSZ.out]; have := HXL.out; omega
        clear hj h2 h3
        go_wp2_with fail
        refine (hq _ _ hcs2).mono ?_
        rintro e w3 ⟨rfl, rfl⟩
        cases hqx : q (cel p.cells x)
        case false =>
          have HN := Aside0.mk (show partM p.cells q i (j + 1) = partM p.cells q i j by rw [HPS.out, if_neg (by simp [hqx]), List.append_nil])
          go_wp2_with fail
          go_roundg g3
          case measure => omega
          case rel =>
            refine ⟨j + 1, rfl, HJ.out, Aside0.mk ?_, HAL⟩
            rw [HN.out]
            exact HG.out
        case true =>
          have HN := Aside0.mk (show partM p.cells q i (j + 1) = partM p.cells q i j ++ [(i, x)] by rw [HPS.out, if_pos hqx])
          have HLN := Aside0.mk (show (gathM p.cells p.side q i ++ partM p.cells q i j).length ≤ 90 * i + 90 by rw [List.length_append]; have := gathM_len p.cells p.side q i; have := partM_len p.cells q i j; omega)
          have HGL := Aside0.mk (show gathM p.cells p.side q i ++ partM p.cells q i (j + 1) = gathM p.cells p.side q i ++ partM p.cells q i j ++ [(i, x)] by rw [HN.out, List.append_assoc])
          generalize gathM p.cells p.side q i ++ partM p.cells q i j = L at *
          have HI90 := Aside0.mk (show i < 90 by omega)
          go_wp2_with (first | (at_builtin; refine hold ?_))
          refine Hold.go ?_
          refine wpList_append_lies _ (by rfl) _ _ _ (by rfl) (w.heap.size + 1) 49 i0 _ 2 16 Tryz.underlying45 HZ.out.1 HZ.out.2.1 HZ.out.2.2.1 HZ.out.2.2.2 rfl (by omega) _ L.length (flatM L) (by rfl) (HG.out.own.below (below_alloc (Below.refl _ _) _)) ⟨w3.heap.size, 0, none⟩ 1 1 (mvC (i, x)) (by rfl) (by rfl) (World.news_of_block (cs := #[.int .i64 (i : Int), .int .i64 (x : Int)]) (t := 49) (fr := (0, 0)) (news_own _ _)) (by simp [Value.oneCell', mvC]) (by omega) (by have := HLN.out; have := HI90.out; unfold maxLen; omega) (by have := HLN.out; have := HI90.out; omega) (by have := HG.out.lt; simp; omega) _ rfl ?_
          intro gg cap1 w1 hown1 hgrow hat hlt1
          have HO1 := Aside0.mk hown1
          have HGR := Aside0.mk hgrow
          have HAT := Aside0.mk hat
          clear hown1 hgrow hat
          go_wp2_with fail
          go_roundg g3
          case measure => omega
          case rel =>
            refine ⟨j + 1, rfl, HJ.out, Aside0.mk ?_, Aside0.mk ⟨.inr ?_⟩⟩
            · rw [HGL.out]
              refine (HG.out.below (below_alloc (Below.refl _ _) _)).grown HGR.out ?_
              have ho := HO1.out
              unfold OwnM
              rw [flatM_append, List.length_append]
              exact ho
            · obtain ⟨g2', hg2, k1, k2, k3⟩ := HAL.out.at hjl
              simp only [Option.some.injEq, Addr.mk.injEq, and_true] at hg2
              subst hg2
              have hsz := HGR.out.size
              have hk : g' < (w3.alloc (Obj.cells #[Value.int IntKind.i64 i, Value.int IntKind.i64 x] 49)).heap.size := by simp; omega
              refine ⟨g', rfl, by omega, fun he => ?_, fun y hy => (HGR.out.cell_far ⟨g', y, none⟩ hk (Ne.symm k2)).trans ?_⟩
              · simp only [Value.ownBlock, Option.some.injEq] at he
                rcases HAT.out with h | h
                · rw [h, he] at k2; exact k2 rfl
                · omega
              · exact below_cell (below_alloc (Below.refl _ _) _) _ _ _ (k3 y hy)
end Go.Proofs.YtllbkppdkldmiaaGreatDoor.K

/- Walks: the reference's Find. -/
namespace Go.Proofs.YtllbkppdkldmiaaGreatDoor.K
open Go.RowKit Go.Lib Go.Proofs.YtllbkppdkldmiaaGreatDoorW.PrintWords Go.Proofs.YtllbkppdkldmiaaGreatDoor.Sp
set_option linter.unusedVariables false
set_option linter.unusedSimpArgs false
attribute [local go_sem] cel_get   -- for this text's walks alone
def flatI (l : List Nat) : List Value := l.map (fun (n : Nat) => Value.int .i64 (n : Int))
theorem flatI_append (l : List Nat) (x : Nat) : flatI (l ++ [x]) = flatI l ++ [.int .i64 (x : Int)] := by simp [flatI]
/-- A row of numbers of the call's own, from block B on. -/
def OwnI (W : World) (B : Nat) (v : Value) (l : List Nat) : Prop := W.ownsRow B 3 1 v l.length (flatI l)
theorem OwnI.below {W W' : World} {B : Nat} {v : Value} {l : List Nat} (h : OwnI W B v l) (hb : Below W.heap.size W W') : OwnI W' B v l := pw_own_below h hb
theorem OwnI.lower {W : World} {B B' : Nat} {v : Value} {l : List Nat} (h : OwnI W B v l) (hb : B' ≤ B) : OwnI W B' v l := by
  obtain ⟨h1, h2 | ⟨g, cap, cur, h2, h3, h4⟩⟩ := h
  · exact ⟨h1, .inl h2⟩
  · exact ⟨h1, .inr ⟨g, cap, cur, h2, Nat.le_trans hb h3, h4⟩⟩
/-- Its length stands in it. -/
theorem OwnI.form {W : World} {B : Nat} {v : Value} {l : List Nat} (h : OwnI W B v l) : ∃ A cap, v = .slice A l.length cap := by
  obtain ⟨h1, ⟨h2, h3⟩ | ⟨g, cap, cur, h2, h3, h4⟩⟩ := h
  · exact ⟨none, 0, by rw [h2, h3]⟩
  · exact ⟨_, _, h2⟩
theorem info_int : (Tryz.prog.info? 3).map (fun i => (i.zero, i.size, i.bytes)) = some (some (.int .i64 0), 1, 8) := by kernel_rfl
/-- The squares, of the first n, that hold x. -/
def findL (s : ByteArray) (x n : Nat) : List Nat := (List.range n).filter (fun i => cel s i == x)
theorem findL_succ (s : ByteArray) (x n : Nat) : findL s x (n + 1) = findL s x n ++ (if cel s n = x then [n] else []) := by
  unfold findL
  rw [List.range_succ, List.filter_append]
  congr 1
  split <;> simp_all
theorem findL_len (s : ByteArray) (x n : Nat) : (findL s x n).length = cntX s n x := by
  unfold findL cntX; rw [List.countP_eq_length_filter]
def findN (s : ByteArray) (x : Nat) : List Nat := if isBoard s = true then findL s x 90 else []
/-- What Find's loop keeps. -/
structure FindAt (w0 W : World) (v : Value) (l : List Nat) : Prop where
  own : OwnI W w0.heap.size v l
  bel : Below w0.heap.size w0 W
theorem FindAt.below {w0 W W' : World} {v : Value} {l : List Nat} (h : FindAt w0 W v l) (hb : Below W.heap.size W W') : FindAt w0 W' v l :=
  ⟨h.own.below hb, h.bel.trans (hb.mono h.bel.size)⟩
theorem FindAt.grown {w0 W W1 : World} {v v1 : Value} {l l1 : List Nat} (h : FindAt w0 W v l) (hg : W.grownBy W1 v.ownBlock) (ho : OwnI W1 w0.heap.size v1 l1) : FindAt w0 W1 v1 l1 :=
  ⟨ho, h.bel.grown hg h.bel.size (fun k hk => (h.own.lt k hk).1)⟩
set_option maxRecDepth 100000 in
set_option maxHeartbeats 4000000 in
theorem rfind_c (s : ByteArray) (hmx : s.size ≤ maxLen) (x : Nat) (hx : x < 256) (w : World) :
    Calls Tryz.prog 32 #[.string s, .int .u8 (x : Int)] w fun e w' => ∃ v, e = .returned v ∧ OwnI w' w.heap.size v (findN s x) ∧ Below w.heap.size w w' := by
  have HIS := Aside0.mk (fun W => ris_c s hmx W)
  clear hmx
  cases hs : isBoard s
  case false =>
    rw [show findN s x = [] by unfold findN; rw [hs]; rfl]
    rw [hs] at HIS
    clear hs
    go_enter Tryz.func32, Tryz.ntmps32
    go_wp2_with fail
    refine (HIS.out _).mono ?_
    rintro e w1 ⟨rfl, rfl⟩
    go_wp2_with fail
    go_ret
    exact ⟨_, rfl, own_nil _ _ _ _, Below.refl _ _⟩
  case true =>
  have HR := Aside0.mk (show findN s x = findL s x 90 by unfold findN; rw [hs]; rfl)
  have HSZ := Aside0.mk (board_size hs)
  rw [hs] at HIS
  clear hs
  obtain ⟨i0, hi0, hx0⟩ := Option.map_eq_some_iff.1 info_int
  simp only [Prod.mk.injEq] at hx0
  have HZ := Aside0.mk (⟨hi0, hx0⟩ : _ ∧ _)
  clear hx0 hi0
  have hsz : (s.size : Int) = 90 := by rw [HSZ.out]; rfl
  go_enter Tryz.func32, Tryz.ntmps32
  go_wp2_with fail
  refine (HIS.out _).mono ?_
  rintro e w1 ⟨rfl, rfl⟩
  go_wp2_with fail
  go_loopg [5, 6] 90 (fun gg s5 s6 wr => ∃ i : Nat, s6 = .int .i64 i ∧ i + gg = 90 ∧ Aside0 (FindAt w1 wr s5 (findL s x i)))
  case atStart => exact ⟨0, rfl, by omega, ⟨⟨own_nil _ _ _ _, Below.refl _ _⟩⟩⟩
  case round =>
    obtain ⟨i, rfl, hi, HG⟩ := hrel
    cases gk with
    | zero =>
      have hn : ¬ ((i : Int) < 90) := by omega
      have HI := Aside0.mk (show i = 90 by omega)
      clear hi
      go_wp2_with fail
      go_ret
      refine ⟨_, rfl, ?_, HG.out.bel⟩
      rw [HR.out, ← HI.out]
      exact HG.out.own
    | succ g =>
      have hn : ((i : Int) < 90) := by omega
      have HI := Aside0.mk (show i + 1 + g = 90 by omega)
      have HLN := Aside0.mk (show (findL s x i).length ≤ 90 by rw [findL_len]; have := cntX_le s i x; have := HI.out; omega)
      have hq : (((cel s i : Nat) : Int) == (x : Int)) = (cel s i == x) := by rw [Bool.eq_iff_iff, beq_iff_eq, beq_iff_eq]; omega
      clear hi
      cases hc : (cel s i == x)
      case false =>
        have HF := Aside0.mk (show findL s x (i + 1) = findL s x i by rw [findL_succ, if_neg (by simpa using hc), List.append_nil])
        rw [hc] at hq
        clear hc
        go_wp2_with fail
        go_roundg g
        case measure => omega
        case rel => exact ⟨i + 1, rfl, HI.out, ⟨by rw [HF.out]; exact HG.out⟩⟩
      case true =>
        have HF := Aside0.mk (show findL s x (i + 1) = findL s x i ++ [i] by rw [findL_succ, if_pos (by simpa using hc)])
        rw [hc] at hq
        clear hc
        generalize findL s x i = l at *
        go_wp2_with (first | (at_builtin; refine hold ?_))
        refine Hold.go ?_
        refine wpList_append_lies _ (by rfl) _ _ _ (by rfl) w1.heap.size 3 i0 _ 1 8 Tryz.underlying24 HZ.out.1 HZ.out.2.1 HZ.out.2.2.1 HZ.out.2.2.2 rfl (by omega) _ l.length (flatI l) (by rfl) (HG.out.own.below (below_alloc (Below.refl _ _) _)) ⟨wr.heap.size, 0, none⟩ 1 1 [.int .i64 (i : Int)] (by rfl) (by rfl) (World.news_of_block (cs := #[.int .i64 (i : Int)]) (t := 3) (fr := (0, 0)) (news_own _ _)) (by simp [Value.oneCell']) (by omega) (by have := HLN.out; unfold maxLen; omega) (by have := HLN.out; omega) (by have := HG.out.bel.size; simp; omega) _ rfl ?_
        intro gg cap1 w2 hown1 hgrow hat hlt1
        have HO1 := Aside0.mk hown1
        have HGR := Aside0.mk hgrow
        clear hown1 hgrow hat
        go_wp2_with fail
        go_roundg g
        case measure => omega
        case rel =>
          refine ⟨i + 1, rfl, HI.out, ⟨?_⟩⟩
          rw [HF.out]
          refine (HG.out.below (below_alloc (Below.refl _ _) _)).grown HGR.out ?_
          have ho := HO1.out
          unfold OwnI
          rw [flatI_append, List.length_append]
          exact ho
end Go.Proofs.YtllbkppdkldmiaaGreatDoor.K

/- Walk: the reference's Check. -/
namespace Go.Proofs.YtllbkppdkldmiaaGreatDoor.K
open Go.RowKit Go.Lib Go.Proofs.YtllbkppdkldmiaaGreatDoorW.PrintWords Go.Proofs.YtllbkppdkldmiaaGreatDoor.Sp
set_option linter.unusedVariables false
set_option linter.unusedSimpArgs false
attribute [local go_sem] cel_get   -- for this text's walks alone
/-- The letters' bytes. -/
theorem letter_at : ∀ i, i < 14 → cel { data := #[75, 65, 66, 78, 82, 67, 80, 107, 97, 98, 110, 114, 99, 112] } i = pieces14.getD i 0 := by decide
/-- A position's box, whose cells alone are read. -/
structure CkAt (w0 W : World) (s : ByteArray) : Prop where
  c0 : W.cell? ⟨w0.heap.size, 0, none⟩ = some (.string s)
  bel : Below w0.heap.size w0 W
theorem CkAt.below {w0 W W' : World} {s : ByteArray} (h : CkAt w0 W s) (hb : Below W.heap.size W W') : CkAt w0 W' s := ⟨below_cell hb _ _ _ h.c0, h.bel.trans (hb.mono h.bel.size)⟩
theorem CkAt.drew {w0 W : World} {s : ByteArray} (h : CkAt w0 W s) : CkAt w0 W.drew s := h.below (pw_below_drewN (Below.refl _ _) 1)
set_option maxRecDepth 100000 in
set_option maxHeartbeats 4000000 in
theorem rcheck_bad (p : Pos) (hmx : p.cells.size ≤ maxLen) (ha : argOk p = false) (w : World) : Calls Tryz.prog 85 #[posV p] w fun e w' => e = .returned (.int .i64 (checkP p)) ∧ Below w.heap.size w w' := by
  have HI := Aside0.mk (fun W => ris_c p.cells hmx W)
  have hu := Tryz.underlying33
  rw [show checkP p = 1 by unfold checkP; rw [if_pos ha]]
  have HN := Aside0.mk (argOk_no ha)
  clear ha hmx
  generalize isBoard p.cells = bb at HI HN
  have HB := Aside0.mk (below_alloc (Below.refl w.heap.size w) (.cells #[.string p.cells, .int .i64 p.side, .int .i64 p.clock, .int .i64 p.full] 33))
  go_enter Tryz.func85, Tryz.ntmps85
  go_upto_region 3 with (go_at_call 29; refine (HI.out _).mono ?_; rintro e w1 ⟨rfl, rfl⟩)
  all_goals
    first
    | (go_ret; exact ⟨rfl, HB.out⟩)
    | (exfalso
       have hn := HN.out
       clear HN HB HI
       simp_all
       done)
    | (exfalso
       have hn := HN.out
       clear HN HB HI
       simp_all
       omega)
theorem right_all {s : ByteArray} {n m : Nat} (h : n ≤ m) (hr : rightX s n = false) : rightX s m = false := by
  unfold rightX at *
  rw [List.all_eq_false] at *
  obtain ⟨x, hx, hq⟩ := hr
  exact ⟨x, List.mem_range.2 (by have := List.mem_range.1 hx; omega), hq⟩
set_option maxRecDepth 100000 in
set_option maxHeartbeats 4000000 in
theorem rcheck_ok (p : Pos) (ha : argOk p = true) (w : World) : Calls Tryz.prog 85 #[posV p] w fun e w' => e = .returned (.int .i64 (checkP p)) ∧ Below w.heap.size w w' := by
  obtain ⟨hbd, hsd, hc1, hc2, hf1, hf2⟩ := argOk_yes ha
  have hmx : p.cells.size ≤ maxLen := by rw [board_size hbd]; unfold maxLen; omega
  have HI := Aside0.mk (fun W => ris_c p.cells hmx W)
  have hu := Tryz.underlying33
  have HP := Aside0.mk (show checkP p = if pieces14.any (badX p.cells) = true then 3 else if rightX p.cells 90 = false then 2 else 0 by unfold checkP; rw [ha]; rfl)
  have HSZ := Aside0.mk (board_size hbd)
  have HBD := Aside0.mk hbd
  rw [hbd] at HI
  clear ha hbd
  have hs0 : 0 ≤ p.side := by omega
  have hs1 : p.side ≤ 1 := by omega
  clear hsd
  have HCK := Aside0.mk (show CkAt w (w.alloc (.cells #[.string p.cells, .int .i64 p.side, .int .i64 p.clock, .int .i64 p.full] 33)) p.cells from ⟨by simp [World.cell?_alloc_at], below_alloc (Below.refl _ _) _⟩)
  go_enter Tryz.func85, Tryz.ntmps85
  go_upto_region 3 with (go_at_call 29; refine (HI.out _).mono ?_; rintro e w1 ⟨rfl, rfl⟩)
  generalize w.alloc (.cells #[.string p.cells, .int .i64 p.side, .int .i64 p.clock, .int .i64 p.full] 33) = W0 at *
  clear hs0 hs1 hc1 hc2 hf1 hf2
  go_wp2_with fail
  go_loopg [4] 14 (fun gg s4 wr => ∃ i : Nat, s4 = .int .i64 i ∧ i + gg = 14 ∧ Aside0 (CkAt w wr p.cells) ∧ Aside0 (∀ j, j < i → badX p.cells (pieces14.getD j 0) = false))
  case atStart => exact ⟨0, rfl, by omega, HCK, ⟨fun j hj => by omega⟩⟩
  case round =>
    clear HCK
    obtain ⟨i, rfl, hi, HC, HBX⟩ := hrel
    cases gk with
    | zero =>
      have hn : ¬ ((i : Int) < 14) := by omega
      have hi14 : i = 14 := by omega
      subst hi14
      have HNA := Aside0.mk (none14 p.cells HBX.out)
      clear hi HBX
      go_wp2_with fail
      go_loopg [6] 90 (fun gg s6 wr => ∃ i : Nat, s6 = .int .i64 i ∧ i + gg = 90 ∧ Aside0 (CkAt w wr p.cells) ∧ Aside0 (rightX p.cells i = true))
      case atStart => exact ⟨0, rfl, by omega, HC, ⟨rfl⟩⟩
      case round =>
        clear HC
        obtain ⟨j, rfl, hj, HC, HRT⟩ := hrel
        cases gk with
        | zero =>
          have hn2 : ¬ ((j : Int) < 90) := by omega
          have HJ := Aside0.mk (show j = 90 by omega)
          clear hj
          go_wp2_with fail
          go_ret
          refine ⟨ret_int ?_, HC.out.bel⟩
          rw [HP.out, HNA.out, ← HJ.out, HRT.out]; simp
        | succ g =>
          have hn2 : (j : Int) < 90 := by omega
          have HJ := Aside0.mk (show j + 1 + g = 90 by omega)
          have c0 := HC.out.c0
          have hsz : (j : Int) < p.cells.size := by rw [HSZ.out]; omega
          have hle := board_cell HBD.out (show j < 90 by omega)
          have h2 : ∀ x ∈ letters, x ≠ 46 → 0 ≤ sideN x := by decide
          have HM := Aside0.mk (fun (h : cel p.cells j ≠ 46) W => rmay_c (cel p.cells j) (h2 _ hle h) j (by omega) W)
          have hrx := rightX_succ p.cells j
          rw [HRT.out, Bool.true_and] at hrx
          have HF90 := Aside0.mk (fun (h : rightX p.cells (j + 1) = false) => right_all (show j + 1 ≤ 90 by omega) h)
          clear h2 hle
          generalize hx : cel p.cells j = x at *
          have q := bne46 x
          have HX := Aside0.mk hx
          generalize mayN x j = mm at *
          have HRX := Aside0.mk hrx
          clear hrx hj
          cases h46 : (x != 46) <;> cases mm
          all_goals
            rw [h46] at q
            have H46 := Aside0.mk h46
            clear h46
            go_wp2_with (go_at_call 113; refine (HM.out (by have := H46.out; simpa using this) _).mono ?_; rintro e w3 ⟨rfl, rfl⟩)
            first
            | (go_ret
               refine ⟨ret_int ?_, HC.out.bel⟩
               rw [HP.out, HNA.out, HF90.out (by rw [HRX.out]; have := H46.out; simp_all)]; rfl)
            | (go_roundg g
               case measure => have := HJ.out; omega
               case rel => exact ⟨j + 1, by go_num, by have := HJ.out; omega, HC, ⟨by rw [HRX.out]; have := H46.out; simp_all⟩⟩)
    | succ g =>
      have hn : (i : Int) < 14 := by omega
      have hi14 : i < 14 := by omega
      have HG := Aside0.mk (show i + 1 + g = 14 by omega)
      have hx := piece_lt i hi14
      have hl := letter_at i hi14
      have HFI := Aside0.mk (fun W => rfind_c p.cells (by rw [HSZ.out]; unfold maxLen; omega) (pieces14.getD i 0) hx W)
      have HMO := Aside0.mk (fun W => rmost_c (pieces14.getD i 0) hx W)
      have HKI := Aside0.mk (fun W => rkind_c (pieces14.getD i 0) hx W)
      have hbx : badX p.cells (pieces14.getD i 0) = (decide (mostN (pieces14.getD i 0) < cntX p.cells 90 (pieces14.getD i 0)) || (kindN (pieces14.getD i 0) == 75 && cntX p.cells 90 (pieces14.getD i 0) != 1)) := rfl
      have hfl : (findN p.cells (pieces14.getD i 0)).length = cntX p.cells 90 (pieces14.getD i 0) := by unfold findN; rw [HBD.out, if_pos rfl, findL_len]
      have hcle := cntX_le p.cells 90 (pieces14.getD i 0)
      have hkq := kindN_q (pieces14.getD i 0)
      have HANY := Aside0.mk (any14 p.cells i hi14)
      generalize hxx : pieces14.getD i 0 = x at *
      generalize cntX p.cells 90 x = cc at *
      generalize mostN x = m at *
      generalize kindN x = k at *
      have HBE := Aside0.mk hbx
      have HFL := Aside0.mk hfl
      have hcq : ((cc : Int) != 1) = (cc != 1) := by rw [Bool.eq_iff_iff, bne_iff_ne, bne_iff_ne]; omega
      have HXX := Aside0.mk hxx
      clear hbx hxx hi hfl
      have c0 := HC.out.c0
      go_wp2_with fail
      go_region_held3 (fun W => W.cell? ⟨w.heap.size, 0, none⟩ = some (.string p.cells)) (go_keep)
        (first
          | (go_at_call 32; refine (HFI.out _).mono ?_; rintro e w2 ⟨v, rfl, hv, hb⟩; obtain ⟨A, cap, rfl⟩ := hv.form; have HC2 := Aside0.mk (HC.out.drew.below hb); have c0' := HC2.out.c0; rw [HFL.out]; clear hv hb))
      have HC3 := HC2
      clear HC HC2 c0 c0'
      generalize findN p.cells x = fl at *
      cases b1 : decide (m < cc)
      all_goals cases b2 : (k == 75)
      all_goals cases b3 : (cc != 1)
      all_goals
        rw [b2] at hkq
        rw [b3] at hcq
        have HB123 : Aside0 (badX p.cells x = (decide (m < cc) || (k == 75 && cc != 1))) := HBE
        rw [b1, b2, b3] at HB123
        clear b2 b3
        go_wp2_with (first | (go_at_call 112; refine (HMO.out _).mono ?_; rintro e w3 ⟨rfl, rfl⟩) | (go_at_call 35; refine (HKI.out _).mono ?_; rintro e w4 ⟨rfl, rfl⟩))
        first
        | (go_ret
           refine ⟨ret_int ?_, ?_⟩
           · rw [HP.out, if_pos (HANY.out (by rw [HB123.out]; rfl))]
           · exact HC3.out.bel)
        | (go_roundg g
           case measure => have := HG.out; omega
           case rel => exact ⟨i + 1, by go_num, by have := HG.out; omega, HC3, ⟨fun j hj => by
             by_cases h : j = i
             · subst h; rw [HXX.out, HB123.out]; rfl
             · exact HBX.out j (by omega)⟩⟩)
theorem rcheck_c (p : Pos) (hmx : p.cells.size ≤ maxLen) (w : World) : Calls Tryz.prog 85 #[posV p] w fun e w' => e = .returned (.int .i64 (checkP p)) ∧ Below w.heap.size w w' := by
  cases ha : argOk p
  · exact rcheck_bad p hmx ha w
  · exact rcheck_ok p ha w
end Go.Proofs.YtllbkppdkldmiaaGreatDoor.K

/- Walks: references: Of, Between, put. -/
namespace Go.Proofs.YtllbkppdkldmiaaGreatDoor.K
open Go.RowKit Go.Lib Go.Proofs.YtllbkppdkldmiaaGreatDoorW.PrintWords Go.Proofs.YtllbkppdkldmiaaGreatDoor.Sp
set_option linter.unusedVariables false
set_option linter.unusedSimpArgs false
theorem rofp_c (k : Nat) (hk : 65 ≤ k ∧ k ≤ 90) (a : Int) (w : World) :
    Calls Tryz.prog 61 #[.int .u8 (k : Int), .int .i64 a] w fun e w' => e = .returned (.int .u8 ((if a = 1 then k + 32 else k : Nat) : Int)) ∧ w' = w := by
  by_cases h1 : a = 1
  · rw [if_pos h1]
    have q : (a == 1) = true := by rw [h1]; rfl
    have e1 : ((k : Int) - 65) % 256 = (k : Int) - 65 := by omega
    have e2 : ((k : Int) - 65 + 97) % 256 = (k : Int) + 32 := by omega
    clear h1 hk
    go_enter Tryz.func61, Tryz.ntmps61
    go_wp2_with fail
    go_ret
    exact ⟨ret_int (by omega), rfl⟩
  · rw [if_neg h1]
    have q : (a == 1) = false := by rw [beq_eq_false_iff_ne]; exact h1
    clear h1 hk
    go_enter Tryz.func61, Tryz.ntmps61
    go_wp2_with fail
    go_ret
    exact ⟨rfl, rfl⟩
theorem rreal_c (n : Int) (w : World) : Calls Tryz.prog 69 #[.int .i64 n] w fun e w' => e = .returned (.bool (decide (0 ≤ n ∧ n < 90))) ∧ w' = w := by
  by_cases h0 : 0 ≤ n
  all_goals
    go_enter Tryz.func69, Tryz.ntmps69
    go_wp2_with fail
    go_ret
    refine ⟨ret_bool ?_, rfl⟩
    rw [Bool.eq_iff_iff]; simp; omega
set_option maxRecDepth 100000 in
set_option maxHeartbeats 2000000 in
theorem rbetw_c (s : ByteArray) (hmx : s.size ≤ maxLen) (a b : Int) (w : World) : Calls Tryz.prog 33 #[.string s, .int .i64 a, .int .i64 b] w fun e w' => e = .returned (.int .i64 (betwS s a b)) ∧ w' = w := by
  have HI := Aside0.mk (fun W => ris_c s hmx W)
  have HQA := Aside0.mk (fun W => rreal_c a W)
  have HQB := Aside0.mk (fun W => rreal_c b W)
  have HE := Aside0.mk (show betwS s a b = if isBoard s = true ∧ (0 ≤ a ∧ a < 90) ∧ (0 ≤ b ∧ b < 90) then betwN (cel s) a.toNat b.toNat else -1 from rfl)
  clear hmx
  cases hs : isBoard s with
  | false =>
    rw [hs] at HI
    have HE2 := Aside0.mk (show betwS s a b = -1 by rw [HE.out, if_neg (by rw [hs]; simp)])
    clear hs HQA HQB HE
    go_enter Tryz.func33, Tryz.ntmps33
    go_wp2_with (go_at_call 29; refine (HI.out _).mono ?_; rintro e w1 ⟨rfl, rfl⟩)
    go_ret
    exact ⟨ret_int HE2.out.symm, rfl⟩
  | true =>
    rw [hs] at HI
    cases ha : decide (0 ≤ a ∧ a < 90) with
    | false =>
      rw [ha] at HQA
      have HE2 := Aside0.mk (show betwS s a b = -1 by rw [HE.out, if_neg (fun h => of_decide_eq_false ha h.2.1)])
      clear hs HQB ha HE
      go_enter Tryz.func33, Tryz.ntmps33
      go_wp2_with (first | (go_at_call 29; refine (HI.out _).mono ?_; rintro e w1 ⟨rfl, rfl⟩) | (go_at_call 69; (with_reducible refine (HQA.out _).mono ?_); rintro e w2 ⟨rfl, rfl⟩))
      go_ret
      exact ⟨ret_int HE2.out.symm, rfl⟩
    | true =>
      rw [ha] at HQA
      have ha := of_decide_eq_true ha
      cases hb : decide (0 ≤ b ∧ b < 90) with
      | false =>
        rw [hb] at HQB
        have HE2 := Aside0.mk (show betwS s a b = -1 by rw [HE.out, if_neg (fun h => of_decide_eq_false hb h.2.2)])
        clear hs ha hb HE
        go_enter Tryz.func33, Tryz.ntmps33
        go_wp2_with (first | (go_at_call 29; refine (HI.out _).mono ?_; rintro e w1 ⟨rfl, rfl⟩) | (go_at_call 69; (with_reducible refine (HQA.out _).mono ?_); rintro e w2 ⟨rfl, rfl⟩; clear HQA) | (go_at_call 69; (with_reducible refine (HQB.out _).mono ?_); rintro e w2 ⟨rfl, rfl⟩))
        go_ret
        exact ⟨ret_int HE2.out.symm, rfl⟩
      | true =>
        rw [hb] at HQB
        have hb := of_decide_eq_true hb
        have HE2 := Aside0.mk (show betwS s a b = betwN (cel s) a.toNat b.toNat by rw [HE.out, if_pos ⟨hs, ha, hb⟩])
        have HB := Aside0.mk (fun W => rbetween_c s (board_size hs) a.toNat b.toNat (by omega) (by omega) W)
        rw [show ((a.toNat : Nat) : Int) = a by omega, show ((b.toNat : Nat) : Int) = b by omega] at HB
        generalize betwN (cel s) a.toNat b.toNat = r at *
        clear hs ha hb HE
        go_enter Tryz.func33, Tryz.ntmps33
        go_wp2_with (first | (go_at_call 29; refine (HI.out _).mono ?_; rintro e w1 ⟨rfl, rfl⟩) | (go_at_call 69; (with_reducible refine (HQA.out _).mono ?_); rintro e w2 ⟨rfl, rfl⟩) | (go_at_call 69; (with_reducible refine (HQB.out _).mono ?_); rintro e w2 ⟨rfl, rfl⟩) | (go_at_call 70; (with_reducible refine (HB.out _).mono ?_); rintro e w2 ⟨rfl, rfl⟩))
        go_ret
        exact ⟨ret_int HE2.out.symm, rfl⟩
theorem byte1 (x : Nat) (W : World) : (convert 64 9 (.slice (some ⟨W.heap.size, 0, none⟩) 1 1)).run Tryz.prog (W.alloc (.cells #[.int .u8 (x : Int)] 5)) = .ok (.string (strOfNums [(x : Int)])) (W.alloc (.cells #[.int .u8 (x : Int)] 5)) := by
  have h : BytesAt (W.alloc (.cells #[.int .u8 (x : Int)] 5)) W.heap.size [(x : Int)] := by
    intro i hi
    obtain rfl : i = 0 := by simp at hi; exact hi
    simp [World.cell?_alloc_at]
  exact bytes_string h 64 Tryz.underlying64
theorem byte1d (x : Nat) (W : World) : (convert 64 9 (.slice (some ⟨W.heap.size, 0, none⟩) 1 1)).run Tryz.prog (W.alloc (.cells #[.int .u8 (x : Int)] 5)).drew = .ok (.string (strOfNums [(x : Int)])) (W.alloc (.cells #[.int .u8 (x : Int)] 5)).drew := by
  have h : BytesAt (W.alloc (.cells #[.int .u8 (x : Int)] 5)).drew W.heap.size [(x : Int)] := by
    intro i hi
    obtain rfl : i = 0 := by simp at hi; exact hi
    simp [World.cell?_alloc_at]
  exact bytes_string h 64 Tryz.underlying64
set_option maxRecDepth 100000 in
set_option maxHeartbeats 2000000 in
theorem rput_c (s : ByteArray) (hs : isBoard s = true) (n : Nat) (hn : n < 90) (a : Int) (ha : a = 0 ∨ a = 1) (w : World) : Calls Tryz.prog 58 #[.string s, .int .i64 (n : Int), .int .i64 a] w fun e w' => e = .returned (.string (putT s n (pawnO a))) ∧ Below w.heap.size w w' := by
  have hz := board_size hs
  have hsz : (s.size : Int) = 90 := by rw [hz]; rfl
  have HO := Aside0.mk (fun W => rofp_c 80 (by omega) (1 - a) W)
  have k3 : (convert 64 9 (.slice (some ⟨w.heap.size, 0, none⟩) 1 1)).run Tryz.prog (w.alloc (.cells #[.int .u8 112] 5)).drew = .ok (.string (strOfNums [112])) (w.alloc (.cells #[.int .u8 112] 5)).drew := byte1d 112 w
  have k4 : (convert 64 9 (.slice (some ⟨w.heap.size, 0, none⟩) 1 1)).run Tryz.prog (w.alloc (.cells #[.int .u8 80] 5)).drew = .ok (.string (strOfNums [80])) (w.alloc (.cells #[.int .u8 80] 5)).drew := byte1d 80 w
  have n0 : 0 ≤ (n : Int) := by omega
  have n1 : (n : Int) < 90 := by omega
  have n2 : (n : Int) ≤ 90 := by omega
  have n3 : (n : Int) + 1 ≤ 90 := by omega
  have n4 : 0 ≤ (n : Int) + 1 := by omega
  have n5 : IntKind.i64.wrap ((n : Int) + 1) = (n : Int) + 1 := by rw [IntKind.wrap_i64]; omega
  have n6 : ((n : Int) + 1).toNat = n + 1 := by omega
  have n7 : (n : Int) ≤ (s.size : Int) := by omega
  have n8 : (n : Int) + 1 ≤ (s.size : Int) := by omega
  have e1 : (s.extract 0 n).size = n := by rw [ByteArray.size_extract]; omega
  have e2 : (s.extract (n + 1) 90).size = 90 - (n + 1) := by rw [ByteArray.size_extract, hz]; omega
  have e3 : (strOfNums [112]).size = 1 := by simp [strOfNums, ByteArray.size]
  have e4 : (strOfNums [80]).size = 1 := by simp [strOfNums, ByteArray.size]
  have HN := Aside0.mk (fun p q r : ByteArray => fun (h1 : p.size = n) (h2 : q.size = 1) (h3 : r.size = 90 - (n + 1)) => (show (p ++ q).size ≤ maxLen ∧ (p ++ q ++ r).size ≤ maxLen by simp only [ByteArray.size_append]; unfold maxLen; omega))
  obtain ⟨z1, z2⟩ := HN.out _ _ _ e1 e3 e2
  obtain ⟨z3, z4⟩ := HN.out _ _ _ e1 e4 e2
  have H112 := Aside0.mk (show s.extract 0 n ++ strOfNums [112] ++ s.extract (n + 1) s.size = putT s n (pawnO 0) by rw [hz]; exact put_cat s hz n 112 hn)
  have H80 := Aside0.mk (show s.extract 0 n ++ strOfNums [80] ++ s.extract (n + 1) s.size = putT s n (pawnO 1) by rw [hz]; exact put_cat s hz n 80 hn)
  clear hs hn hz HN
  have HB := Aside0.mk (Below.refl w.heap.size w)
  rcases ha with rfl | rfl
  all_goals
    simp only [Int.sub_self, Int.sub_zero, reduceIte, Int.reduceEq] at HO
    go_enter Tryz.func58, Tryz.ntmps58
    go_wp2_with fail
    go_region_with (first
      | (go_at_call 61; refine (HO.out _).mono ?_; rintro e w2 ⟨rfl, rfl⟩))
    go_wp2_with fail
    go_ret
    refine ⟨?_, by (repeat' (first | (with_reducible exact Below.refl _ _) | (with_reducible refine pw_below_drewN ?_ _) | (with_reducible refine below_alloc ?_ _) | (with_reducible refine Below.drew ?_) | (with_reducible refine Below.setCell ?_ ?_ _) | (simp; done))) <;> first | exact HB.out | (simp; done)⟩
    first | exact congrArg (fun t => Ending.returned (.string t)) H112.out | exact congrArg (fun t => Ending.returned (.string t)) H80.out
end Go.Proofs.YtllbkppdkldmiaaGreatDoor.K

/- Walks: references: General, Facing, In. -/
namespace Go.Proofs.YtllbkppdkldmiaaGreatDoor.K
open Go.RowKit Go.Lib Go.Proofs.YtllbkppdkldmiaaGreatDoorW.PrintWords Go.Proofs.YtllbkppdkldmiaaGreatDoor.Sp
set_option linter.unusedVariables false
set_option linter.unusedSimpArgs false
attribute [local go_sem] cel_get
/-- The first square from i on that holds c, or -1. -/
def firstC (s : ByteArray) (c : Nat) : Nat → Nat → Int
  | _, 0 => -1
  | i, k + 1 => if cel s i = c then i else firstC s c (i + 1) k
theorem firstC_hd (s : ByteArray) (c : Nat) : ∀ k i, firstC s c i k = hdZ (((List.range' i k).filter fun i => decide (cel s i = c)))
  | 0, i => rfl
  | k + 1, i => by
    rw [List.range'_succ]
    unfold firstC
    by_cases h : cel s i = c
    · rw [if_pos h, List.filter_cons_of_pos (by simpa using h)]; rfl
    · rw [if_neg h, List.filter_cons_of_neg (by simpa using h)]; exact firstC_hd s c k (i + 1)
theorem genS_first (s : ByteArray) (hs : isBoard s = true) (a : Int) (ha : a = 0 ∨ a = 1) : genS s a = firstC s (kingO a) 0 90 := by
  unfold genS findS
  rw [if_pos ha, if_pos hs, firstC_hd, List.range_eq_range']
theorem genS_no (s : ByteArray) (hs : isBoard s = false) (a : Int) : genS s a = -1 := by
  unfold genS findS
  split
  · rw [if_neg (by rw [hs]; decide)]; rfl
  · rfl
set_option maxRecDepth 100000 in
set_option maxHeartbeats 2000000 in
theorem rgen_c (s : ByteArray) (hmx : s.size ≤ maxLen) (a : Int) (w : World) : Calls Tryz.prog 21 #[.string s, .int .i64 a] w fun e w' => e = .returned (.int .i64 (genS s a)) ∧ Below w.heap.size w w' := by
  have HI := Aside0.mk (fun W => ris_c s hmx W)
  have HB := Aside0.mk (Below.refl w.heap.size w)
  clear hmx
  cases hs : isBoard s with
  | false =>
    rw [hs] at HI
    have HE := Aside0.mk (genS_no s hs a)
    clear hs
    go_enter Tryz.func21, Tryz.ntmps21
    go_wp2_with (go_at_call 29; refine (HI.out _).mono ?_; rintro e w1 ⟨rfl, rfl⟩)
    go_ret
    exact ⟨ret_int HE.out.symm, HB.out⟩
  | true =>
    rw [hs] at HI
    by_cases ha : a = 0 ∨ a = 1
    case neg =>
      have HE := Aside0.mk (show genS s a = -1 from if_neg ha)
      clear hs
      by_cases h0 : a < 0
      · clear ha
        go_enter Tryz.func21, Tryz.ntmps21
        go_wp2_with (go_at_call 29; refine (HI.out _).mono ?_; rintro e w1 ⟨rfl, rfl⟩)
        go_ret
        exact ⟨ret_int HE.out.symm, HB.out⟩
      · have h1 : 1 < a := by omega
        clear ha
        go_enter Tryz.func21, Tryz.ntmps21
        go_wp2_with (go_at_call 29; refine (HI.out _).mono ?_; rintro e w1 ⟨rfl, rfl⟩)
        go_ret
        exact ⟨ret_int HE.out.symm, HB.out⟩
    case pos =>
      have HE := Aside0.mk (genS_first s hs a ha)
      have HSZ := Aside0.mk (board_size hs)
      have HO := Aside0.mk (fun W => rofp_c 75 (by omega) a W)
      have hc : (a = 0 ∧ kingO a = 75) ∨ (a = 1 ∧ kingO a = 107) := by
        rcases ha with h | h <;> subst h
        · exact .inl ⟨rfl, rfl⟩
        · exact .inr ⟨rfl, rfl⟩
      generalize hgen : genS s a = gn at *
      clear hgen hs ha
      rcases hc with ⟨rfl, hp⟩ | ⟨rfl, hp⟩
      all_goals
        rw [hp] at HE
        clear hp
        simp only [reduceIte, Int.reduceEq] at HO
        go_enter Tryz.func21, Tryz.ntmps21
        go_wp2_with (go_at_call 29; refine (HI.out _).mono ?_; rintro e w1 ⟨rfl, rfl⟩)
        go_loopg [5] 90 (fun gg s5 wr => ∃ i : Nat, s5 = .int .i64 i ∧ i + gg = 90 ∧ Aside0 (Below w1.heap.size w1 wr) ∧ Aside0 (gn = firstC s _ i gg))
        case atStart => exact ⟨0, rfl, rfl, HB, HE⟩
        case round =>
          obtain ⟨i, rfl, hi, HW, HX⟩ := hrel
          clear HE HB
          cases gk with
          | zero =>
            have hn : ¬ ((i : Int) < 90) := by omega
            clear hi
            go_wp2_with fail
            go_ret
            exact ⟨ret_int HX.out.symm, HW.out⟩
          | succ g =>
            have i1 : (i : Int) < 90 := by omega
            have i0 : 0 ≤ (i : Int) := by omega
            have i2 : (i : Int) < (s.size : Int) := by rw [HSZ.out]; omega
            have HI2 := Aside0.mk (show i + 1 + g = 90 by omega)
            clear hi
            have hx := HX.out
            unfold firstC at hx
            generalize hxx : cel s i = x at hx
            first
            | (have q : ((x : Int) == 75) = (x == 75) := by rw [Bool.eq_iff_iff, beq_iff_eq, beq_iff_eq]; omega
               by_cases hc : x = 75
               · rw [if_pos hc] at hx
                 have q2 : (x == 75) = true := by simp [hc]
                 rw [q2] at q
                 have HX2 := Aside0.mk hx
                 clear hx hc q2 HX
                 go_wp2_with fail
                 go_quiet (first | (go_at_call 61; exact Calls.quiet_of_same (HO.out _)))
                 go_wp2_with fail
                 go_ret
                 exact ⟨ret_int HX2.out.symm, pw_below_drewN HW.out _⟩
               · rw [if_neg hc] at hx
                 have q2 : (x == 75) = false := by simp [hc]
                 rw [q2] at q
                 have HX2 := Aside0.mk hx
                 clear hx hc q2 HX
                 go_wp2_with fail
                 go_quiet (first | (go_at_call 61; exact Calls.quiet_of_same (HO.out _)))
                 go_wp2_with fail
                 go_roundg g
                 case measure => omega
                 case rel => exact ⟨i + 1, rfl, HI2.out, ⟨pw_below_drewN HW.out _⟩, HX2⟩)
            | (have q : ((x : Int) == 107) = (x == 107) := by rw [Bool.eq_iff_iff, beq_iff_eq, beq_iff_eq]; omega
               by_cases hc : x = 107
               · rw [if_pos hc] at hx
                 have q2 : (x == 107) = true := by simp [hc]
                 rw [q2] at q
                 have HX2 := Aside0.mk hx
                 clear hx hc q2 HX
                 go_wp2_with fail
                 go_quiet (first | (go_at_call 61; exact Calls.quiet_of_same (HO.out _)))
                 go_wp2_with fail
                 go_ret
                 exact ⟨ret_int HX2.out.symm, pw_below_drewN HW.out _⟩
               · rw [if_neg hc] at hx
                 have q2 : (x == 107) = false := by simp [hc]
                 rw [q2] at q
                 have HX2 := Aside0.mk hx
                 clear hx hc q2 HX
                 go_wp2_with fail
                 go_quiet (first | (go_at_call 61; exact Calls.quiet_of_same (HO.out _)))
                 go_wp2_with fail
                 go_roundg g
                 case measure => omega
                 case rel => exact ⟨i + 1, rfl, HI2.out, ⟨pw_below_drewN HW.out _⟩, HX2⟩)
set_option maxRecDepth 100000 in
set_option maxHeartbeats 2000000 in
theorem rfac_c (s : ByteArray) (hmx : s.size ≤ maxLen) (w : World) : Calls Tryz.prog 23 #[.string s] w fun e w' => e = .returned (.bool (facS s)) ∧ Below w.heap.size w w' := by
  have HG0 := Aside0.mk (rgen_c s hmx 0 w)
  have HG1 := Aside0.mk (fun (W : World) => rgen_c s hmx 1 W)
  have HB2 := Aside0.mk (fun W => rbetw_c s hmx (genS s 0) (genS s 1) W)
  have hlt : ∀ a, genS s a < 90 := by
    intro a
    unfold genS
    split
    · have := findS_lt s (kingO a)
      cases h : findS s (kingO a) with
      | nil => show (-1 : Int) < 90; omega
      | cons n tl => rw [h] at this; have := (this n List.mem_cons_self).1; show (n : Int) < 90; omega
    · omega
  have ha9 := hlt 0
  have hb9 := hlt 1
  unfold facS
  generalize betwS s (genS s 0) (genS s 1) = bt at *
  generalize genS s 0 = a at *
  generalize genS s 1 = b at *
  clear hmx hlt
  cases h0 : decide (0 ≤ a)
  · clear ha9 hb9
    go_enter Tryz.func23, Tryz.ntmps23
    go_wp2_with (first
      | (go_at_call 21; (with_reducible refine HG0.out.mono ?_); rintro e w1 ⟨rfl, hb⟩; have HB := Aside0.mk hb; clear hb)
      | (go_at_call 21; (with_reducible refine (HG1.out _).mono ?_); rintro e w2 ⟨rfl, hb⟩; have HC := Aside0.mk (HB.out.trans (hb.mono HB.out.size)); clear hb))
    go_ret
    exact ⟨by simp_all, HC.out⟩
  cases h1 : decide (0 ≤ b)
  · go_enter Tryz.func23, Tryz.ntmps23
    go_wp2_with (first
      | (go_at_call 21; (with_reducible refine HG0.out.mono ?_); rintro e w1 ⟨rfl, hb⟩; have HB := Aside0.mk hb; clear hb)
      | (go_at_call 21; (with_reducible refine (HG1.out _).mono ?_); rintro e w2 ⟨rfl, hb⟩; have HC := Aside0.mk (HB.out.trans (hb.mono HB.out.size)); clear hb))
    go_ret
    exact ⟨by simp_all, HC.out⟩
  have ha0 := of_decide_eq_true h0
  have hb0 := of_decide_eq_true h1
  have e1 : fileS a = a % 9 := if_pos ⟨ha0, ha9⟩
  have e2 : fileS b = b % 9 := if_pos ⟨hb0, hb9⟩
  rw [e1, e2]
  have HAB := Aside0.mk (And.intro h0 h1)
  cases h2 : (a % 9 == b % 9)
  all_goals cases h3 : (bt == 0)
  all_goals
    clear e1 e2 h0 h1
    go_enter Tryz.func23, Tryz.ntmps23
    go_wp2_with (first
      | (go_at_call 21; (with_reducible refine HG0.out.mono ?_); rintro e w1 ⟨rfl, hb⟩; have HB := Aside0.mk hb; clear hb)
      | (go_at_call 21; (with_reducible refine (HG1.out _).mono ?_); rintro e w2 ⟨rfl, hb⟩; have HC := Aside0.mk (HB.out.trans (hb.mono HB.out.size)); clear hb)
      | (go_at_call 33; refine (HB2.out _).mono ?_; rintro e w4 ⟨rfl, rfl⟩))
    go_ret
    exact ⟨by simp_all, HC.out⟩
end Go.Proofs.YtllbkppdkldmiaaGreatDoor.K

/- Walks: references: Attackers, In, Well. -/
namespace Go.Proofs.YtllbkppdkldmiaaGreatDoor.K
open Go.RowKit Go.Lib Go.Proofs.YtllbkppdkldmiaaGreatDoorW.PrintWords Go.Proofs.YtllbkppdkldmiaaGreatDoor.Sp
set_option linter.unusedVariables false
set_option linter.unusedSimpArgs false
attribute [local go_sem] cel_get
theorem ints_ofI {W : World} {B : Nat} {v : Value} {l : List Nat} (h : OwnI W B v l) : IntsAt W B v l := by
  apply ints_of
  have e1 : (ints l).length = l.length := by simp [ints]
  have e2 : nums .i64 (ints l) = flatI l := by unfold nums ints flatI; rw [List.map_map]; rfl
  unfold OwnZ
  rw [e1, e2]
  exact h
/-- Attackers among the first i squares. -/
def rattL (t : ByteArray) (n : Nat) (a : Int) (i : Nat) : List Nat := (List.range i).filter fun f => (sideN (cel t f) == a) && fastN (cel t) f n
theorem rattL_succ (t : ByteArray) (n : Nat) (a : Int) (i : Nat) : rattL t n a (i + 1) = rattL t n a i ++ (if ((sideN (cel t i) == a) && fastN (cel t) i n) = true then [i] else []) := by
  unfold rattL
  rw [List.range_succ, List.filter_append]
  congr 1
  by_cases h : ((sideN (cel t i) == a) && fastN (cel t) i n) = true
  · rw [if_pos h]; simp only [List.filter_cons, h, List.filter_nil]; rfl
  · rw [if_neg h]; simp only [List.filter_cons, h, List.filter_nil]; rfl
theorem rattL_len (t : ByteArray) (n : Nat) (a : Int) (i : Nat) : (rattL t n a i).length ≤ i := by
  unfold rattL
  refine Nat.le_trans (List.length_filter_le _ _) ?_
  simp
theorem pawnO_cell (a : Int) : cellB (pawnO a) = true ∧ pawnO a < 256 := by
  unfold pawnO; split <;> decide
/-- The program's attackers are the reference's. -/
theorem att_same (s : ByteArray) (hs : isBoard s = true) (n : Nat) (hn : n < 90) (a : Int) (ha : a = 0 ∨ a = 1) : attS s (n : Int) a = rattL (putT s n (pawnO a)) n a 90 := by
  obtain ⟨hc1, hc2⟩ := pawnO_cell a
  have hb := putT_board s hs n (pawnO a) hc1 hc2
  unfold attS rattL
  rw [if_pos ⟨ha, by omega, by omega⟩, show putS s (n : Int) (pawnO a) = putT s n (pawnO a) from if_pos ⟨hs, by omega, by omega, hc1⟩]
  generalize putT s n (pawnO a) = t at *
  unfold piecesS
  rw [if_pos hb, List.filter_filter]
  refine List.filter_congr fun f hf => ?_
  have hf := List.mem_range.1 hf
  have h1 : canS t (f : Int) (n : Int) = fastN (cel t) f n := by
    unfold canS allS
    rw [if_pos ⟨hb, by omega, by omega⟩, Int.toNat_natCast]
    unfold allN
    rw [Bool.eq_iff_iff, List.any_eq_true]
    constructor
    · rintro ⟨x, hx, he⟩
      have : x = n := by have := beq_iff_eq.1 he; omega
      subst this
      exact (List.mem_filter.1 hx).2
    · intro h
      exact ⟨n, List.mem_filter.2 ⟨List.mem_range.2 hn, h⟩, by simp⟩
  rw [h1]
  have h0 : (0 ≤ a) := by omega
  rw [decide_eq_true h0, Bool.true_and, Bool.and_comm]
  rfl
theorem att_none (s : ByteArray) (hs : isBoard s = false) (n a : Int) : attS s n a = [] := by
  unfold attS
  split
  · rw [show putS s n (pawnO a) = s from if_neg (by rw [hs]; simp)]
    unfold piecesS
    rw [if_neg (by rw [hs]; decide)]
    rfl
  · rfl
set_option maxRecDepth 100000 in
set_option maxHeartbeats 2000000 in
theorem ratt_no (s : ByteArray) (hmx : s.size ≤ maxLen) (n a : Int) (h : ¬ (isBoard s = true ∧ (0 ≤ n ∧ n < 90) ∧ (a = 0 ∨ a = 1))) (w : World) : Calls Tryz.prog 19 #[.string s, .int .i64 n, .int .i64 a] w fun e w' => ∃ v, e = .returned v ∧ IntsAt w' w.heap.size v [] ∧ Below w.heap.size w w' := by
  have HI := Aside0.mk (fun W => ris_c s hmx W)
  have HB := Aside0.mk (Below.refl w.heap.size w)
  have HV := Aside0.mk (fun (W : World) => ints_of (l := []) (own_znil W w.heap.size))
  clear hmx
  cases hs : isBoard s with
  | false =>
    rw [hs] at HI
    clear hs h
    go_enter Tryz.func19, Tryz.ntmps19
    go_wp2_with (go_at_call 29; refine (HI.out _).mono ?_; rintro e w1 ⟨rfl, rfl⟩)
    go_ret
    exact ⟨_, rfl, HV.out _, HB.out⟩
  | true =>
    rw [hs] at HI
    have hq : n < 0 ∨ (0 ≤ n ∧ 89 < n) ∨ ((0 ≤ n ∧ n ≤ 89) ∧ a < 0) ∨ ((0 ≤ n ∧ n ≤ 89) ∧ 0 ≤ a ∧ 1 < a) := by
      by_cases h1 : 0 ≤ n ∧ n < 90
      · by_cases h2 : a = 0 ∨ a = 1
        · exact absurd ⟨hs, h1, h2⟩ h
        · omega
      · omega
    clear h hs
    rcases hq with h1 | ⟨h1, h2⟩ | ⟨⟨h1, h2⟩, h3⟩ | ⟨⟨h1, h2⟩, h3, h4⟩
    all_goals
      go_enter Tryz.func19, Tryz.ntmps19
      go_wp2_with (go_at_call 29; refine (HI.out _).mono ?_; rintro e w1 ⟨rfl, rfl⟩)
      go_ret
      exact ⟨_, rfl, HV.out _, HB.out⟩
set_option maxRecDepth 100000 in
set_option maxHeartbeats 4000000 in
theorem ratt_yes (s : ByteArray) (hs : isBoard s = true) (n : Nat) (hn : n < 90) (a : Int) (ha : a = 0 ∨ a = 1) (w : World) : Calls Tryz.prog 19 #[.string s, .int .i64 (n : Int), .int .i64 a] w fun e w' => ∃ v, e = .returned v ∧ IntsAt w' w.heap.size v (rattL (putT s n (pawnO a)) n a 90) ∧ Below w.heap.size w w' := by
  have HI := Aside0.mk (fun W => ris_c s (by rw [board_size hs]; unfold maxLen; omega) W)
  rw [hs] at HI
  have HP := Aside0.mk (fun W => rput_c s hs n hn a ha W)
  obtain ⟨hc1, hc2⟩ := pawnO_cell a
  have hb := putT_board s hs n (pawnO a) hc1 hc2
  generalize putT s n (pawnO a) = t at *
  have HSZ := Aside0.mk (board_size hb)
  have HFA := Aside0.mk (fun (i : Nat) (hi : i < 90) (W : World) => rfast_c t hb i n hi hn W)
  have a0 : 0 ≤ a := by omega
  have a1 : a ≤ 1 := by omega
  have n1 : (n : Int) ≤ 89 := by omega
  have n0 : 0 ≤ (n : Int) := by omega
  have HS := Aside0.mk (fun (i : Nat) (W : World) => rside_c (cel t i) (cel_lt t i) W)
  clear hs hn ha hc1 hc2 hb
  obtain ⟨i0, hi0, hx0⟩ := Option.map_eq_some_iff.1 info_int
  simp only [Prod.mk.injEq] at hx0
  have HZ := Aside0.mk (⟨hi0, hx0⟩ : _ ∧ _)
  clear hx0 hi0
  have HB0 := Aside0.mk (Below.refl w.heap.size w)
  go_enter Tryz.func19, Tryz.ntmps19
  go_wp2_with (first
    | (go_at_call 29; refine (HI.out _).mono ?_; rintro e w1 ⟨rfl, rfl⟩)
    | (go_at_call 58; refine (HP.out _).mono ?_; rintro e w2 ⟨rfl, hb⟩; have HB := Aside0.mk hb; clear hb))
  go_loopg [8, 9] 90 (fun gg s8 s9 wr => ∃ i : Nat, s9 = .int .i64 i ∧ i + gg = 90 ∧ Aside0 (FindAt w2 wr s8 (rattL t n a i)))
  case atStart => exact ⟨0, rfl, by omega, ⟨⟨own_nil _ _ _ _, Below.refl _ _⟩⟩⟩
  case round =>
    obtain ⟨i, rfl, hi, HG⟩ := hrel
    cases gk with
    | zero =>
      have hn : ¬ ((i : Int) < 90) := by omega
      have HI := Aside0.mk (show i = 90 by omega)
      clear hi
      go_wp2_with fail
      go_ret
      have ho := HG.out.own
      rw [HI.out] at ho
      have hi := ints_ofI ho
      obtain ⟨A, cap, hv, hcap, hx⟩ := hi.out
      exact ⟨_, rfl, ⟨A, cap, hv, hcap, hx.imp id (fun ⟨g, h1, h2, h3, h4⟩ => ⟨g, h1, Nat.le_trans HB.out.size h2, h3, h4⟩)⟩, HB.out.trans (HG.out.bel.mono HB.out.size)⟩
    | succ g =>
      have hn : ((i : Int) < 90) := by omega
      have i0' : 0 ≤ (i : Int) := by omega
      have i2 : (i : Int) < (t.size : Int) := by rw [HSZ.out]; omega
      have HI := Aside0.mk (show i + 1 + g = 90 by omega)
      have HLN := Aside0.mk (show (rattL t n a i).length ≤ 90 by have := rattL_len t n a i; omega)
      have HSI := Aside0.mk (HS.out i)
      have HFI := Aside0.mk (HFA.out i (by omega))
      have hst := rattL_succ t n a i
      clear hi
      generalize hxx : cel t i = x at HSI hst
      generalize hsd : sideN x = sd at HSI hst
      have HSD := Aside0.mk hsd
      clear hsd
      generalize fastN (cel t) i n = fa at *
      cases h1 : (sd == a)
      case false =>
        have HF := Aside0.mk (show rattL t n a (i + 1) = rattL t n a i by rw [hst, h1]; simp)
        clear hst HFI
        go_wp2_with (first
          | (go_at_call 34; refine (HSI.out _).mono ?_; rintro e w3 ⟨rfl, rfl⟩))
        go_roundg g
        case measure => omega
        case rel => exact ⟨i + 1, rfl, HI.out, ⟨by rw [HF.out]; exact HG.out⟩⟩
      case true =>
      cases fa
      case false =>
        have HF := Aside0.mk (show rattL t n a (i + 1) = rattL t n a i by rw [hst, h1]; simp)
        clear hst
        go_wp2_with (first
          | (go_at_call 34; refine (HSI.out _).mono ?_; rintro e w3 ⟨rfl, rfl⟩)
          | (go_at_call 59; refine (HFI.out _).mono ?_; rintro e w3 ⟨rfl, rfl⟩))
        go_roundg g
        case measure => omega
        case rel => exact ⟨i + 1, rfl, HI.out, ⟨by rw [HF.out]; exact HG.out⟩⟩
      case true =>
        have HF := Aside0.mk (show rattL t n a (i + 1) = rattL t n a i ++ [i] by rw [hst, h1]; simp)
        clear hst
        generalize rattL t n a i = l at *
        go_wp2_with (first
          | (go_at_call 34; refine (HSI.out _).mono ?_; rintro e w3 ⟨rfl, rfl⟩)
          | (go_at_call 59; refine (HFI.out _).mono ?_; rintro e w4 ⟨rfl, rfl⟩)
          | (at_builtin; refine hold ?_))
        refine Hold.go ?_
        refine wpList_append_lies _ (by rfl) _ _ _ (by rfl) w2.heap.size 3 i0 _ 1 8 Tryz.underlying24 HZ.out.1 HZ.out.2.1 HZ.out.2.2.1 HZ.out.2.2.2 rfl (by omega) _ l.length (flatI l) (by rfl) (HG.out.own.below (below_alloc (Below.refl _ _) _)) ⟨w4.heap.size, 0, none⟩ 1 1 [.int .i64 (i : Int)] (by rfl) (by rfl) (World.news_of_block (cs := #[.int .i64 (i : Int)]) (t := 3) (fr := (0, 0)) (news_own _ _)) (by simp [Value.oneCell']) (by omega) (by have := HLN.out; unfold maxLen; omega) (by have := HLN.out; omega) (by have := HG.out.bel.size; simp; omega) _ rfl ?_
        intro gg cap1 w5 hown1 hgrow hat hlt1
        have HO1 := Aside0.mk hown1
        have HGR := Aside0.mk hgrow
        clear hown1 hgrow hat
        go_wp2_with fail
        go_roundg g
        case measure => omega
        case rel =>
          refine ⟨i + 1, rfl, HI.out, ⟨?_⟩⟩
          rw [HF.out]
          refine (HG.out.below (below_alloc (Below.refl _ _) _)).grown HGR.out ?_
          have ho := HO1.out
          unfold OwnI
          rw [flatI_append, List.length_append]
          exact ho
theorem ratt_c (s : ByteArray) (hmx : s.size ≤ maxLen) (n a : Int) (w : World) : Calls Tryz.prog 19 #[.string s, .int .i64 n, .int .i64 a] w fun e w' => ∃ v, e = .returned v ∧ IntsAt w' w.heap.size v (attS s n a) ∧ Below w.heap.size w w' := by
  by_cases h : isBoard s = true ∧ (0 ≤ n ∧ n < 90) ∧ (a = 0 ∨ a = 1)
  · have e1 : n = ((n.toNat : Nat) : Int) := by omega
    have := ratt_yes s h.1 n.toNat (by omega) a h.2.2 w
    rw [← att_same s h.1 n.toNat (by omega) a h.2.2, ← e1] at this
    exact this
  · rw [show attS s n a = [] by
      by_cases h1 : isBoard s = true
      · exact if_neg (fun h2 => h ⟨h1, h2.2, h2.1⟩)
      · exact att_none s (by simpa using h1) n a]
    exact ratt_no s hmx n a h w
end Go.Proofs.YtllbkppdkldmiaaGreatDoor.K

/- Walks: references: In, Well; Ints. -/
namespace Go.Proofs.YtllbkppdkldmiaaGreatDoor.K
open Go.RowKit Go.Lib Go.Proofs.YtllbkppdkldmiaaGreatDoorW.PrintWords Go.Proofs.YtllbkppdkldmiaaGreatDoor.Sp
set_option linter.unusedVariables false
set_option linter.unusedSimpArgs false
set_option maxRecDepth 100000 in
set_option maxHeartbeats 2000000 in
theorem rin_c (s : ByteArray) (hmx : s.size ≤ maxLen) (a : Int) (w : World) : Calls Tryz.prog 25 #[.string s, .int .i64 a] w fun e w' => e = .returned (.bool (inS s a)) ∧ Below w.heap.size w w' := by
  have HG := Aside0.mk (rgen_c s hmx a w)
  have HA := Aside0.mk (fun (W : World) => ratt_c s hmx (genS s a) (1 - a) W)
  have HE := Aside0.mk (show inS s a = (decide (0 ≤ genS s a) && decide (0 < (attS s (genS s a) (1 - a)).length)) from rfl)
  clear hmx
  cases h0 : decide (0 ≤ genS s a)
  case false =>
    rw [h0] at HE
    have hn := of_decide_eq_false h0
    generalize genS s a = g at *
    clear HA
    go_enter Tryz.func25, Tryz.ntmps25
    go_wp2_with (go_at_call 21; refine HG.out.mono ?_; rintro e w1 ⟨rfl, hb⟩; have HB := Aside0.mk hb; clear hb)
    go_ret
    exact ⟨by rw [HE.out]; rfl, HB.out⟩
  case true =>
    rw [h0] at HE
    have hn := of_decide_eq_true h0
    have ha : a = 0 ∨ a = 1 := by
      by_cases ha : a = 0 ∨ a = 1
      · exact ha
      · unfold genS at hn; rw [if_neg ha] at hn; omega
    have a0 : 0 ≤ a := by omega
    have a1 : a ≤ 1 := by omega
    have hl := attS_len s (genS s a) (1 - a)
    generalize attS s (genS s a) (1 - a) = l at *
    generalize genS s a = g at *
    have HL := Aside0.mk hl
    have hl2 : (l.length : Int) ≤ 90 := by omega
    generalize hb1 : (1 - a : Int) = b at *
    clear hl ha h0
    go_enter Tryz.func25, Tryz.ntmps25
    go_wp2_with (first
      | (go_at_call 21; refine HG.out.mono ?_; rintro e w1 ⟨rfl, hb⟩; have HB := Aside0.mk hb; clear hb)
      | (go_at_call 19; refine (HA.out _ ).mono ?_; rintro e w2 ⟨v, rfl, hv, hb⟩; have HC := Aside0.mk (HB.out.trans (hb.mono HB.out.size)); clear hb; obtain ⟨A, cap, hv', _⟩ := hv.out; subst hv'; clear hv))
    go_ret
    refine ⟨ret_bool ?_, HC.out⟩
    rw [HE.out]
    first | (simp; done) | (simp; omega)
set_option maxRecDepth 100000 in
set_option maxHeartbeats 2000000 in
theorem rwell_c (p : Pos) (hmx : p.cells.size ≤ maxLen) (w : World) : Calls Tryz.prog 51 #[posV p] w fun e w' => e = .returned (.int .i64 (wellS p)) ∧ Below w.heap.size w w' := by
  have HK := Aside0.mk (fun W => rcheck_c p hmx W)
  have HF := Aside0.mk (fun (W : World) => rfac_c p.cells hmx W)
  have HI := Aside0.mk (fun (W : World) => rin_c p.cells hmx (1 - p.side) W)
  have HE := Aside0.mk (show wellS p = if checkP p ≠ 0 then checkP p else if facS p.cells = true then 4 else if inS p.cells (1 - p.side) = true then 5 else 0 from rfl)
  have hu := Tryz.underlying33
  have HW := Aside0.mk (WeAt.new w p)
  clear hmx
  by_cases hck : checkP p = 0
  case neg =>
    have h2 : (checkP p != 0) = true := by simpa using hck
    rw [if_pos hck] at HE
    clear hck HF HI
    generalize checkP p = ck at *
    go_enter Tryz.func51, Tryz.ntmps51
    go_wp2_with (go_at_call 85; refine (HK.out _).mono ?_; rintro e w1 ⟨rfl, hb⟩; have HB := Aside0.mk (HW.out.bel.trans (hb.mono HW.out.bel.size)); clear hb)
    go_ret
    exact ⟨ret_int HE.out.symm, HB.out⟩
  case pos =>
    rw [if_neg (by simpa using hck)] at HE
    have hsd : p.side = 0 ∨ p.side = 1 := by
      cases hok : argOk p
      · unfold checkP at hck; rw [hok] at hck; simp at hck
      · exact (argOk_yes hok).2.1
    have a0 : 0 ≤ p.side := by omega
    have a1 : p.side ≤ 1 := by omega
    rw [hck] at HK
    clear hck hsd
    generalize hb1 : (1 - p.side : Int) = b at *
    cases hf : facS p.cells
    case true =>
      rw [hf] at HF HE
      clear HI hf
      go_enter Tryz.func51, Tryz.ntmps51
      go_wp2_with (first
        | (go_at_call 85; refine (HK.out _).mono ?_; rintro e w1 ⟨rfl, hb⟩; have HB := Aside0.mk (HW.out.below hb); clear hb; obtain ⟨c0, c1, _⟩ := HB.out)
        | (go_at_call 23; refine (HF.out _ ).mono ?_; rintro e w2 ⟨rfl, hb⟩; have HC := Aside0.mk (HB.out.below hb); clear hb c0 c1))
      go_ret
      exact ⟨ret_int (by rw [HE.out]; rfl), HC.out.bel⟩
    case false =>
      rw [hf] at HF HE
      cases hi : inS p.cells b
      all_goals
        rw [hi] at HI HE
        clear hf hi
        go_enter Tryz.func51, Tryz.ntmps51
        go_wp2_with (first
          | (go_at_call 85; refine (HK.out _).mono ?_; rintro e w1 ⟨rfl, hb⟩; have HB := Aside0.mk (HW.out.below hb); clear hb; obtain ⟨c0, c1, _⟩ := HB.out)
          | (go_at_call 23; refine (HF.out _ ).mono ?_; rintro e w2 ⟨rfl, hb⟩; have HC := Aside0.mk (HB.out.below hb); clear hb c0 c1; obtain ⟨c0, c1, _⟩ := HC.out)
          | (go_at_call 25; refine (HI.out _ ).mono ?_; rintro e w3 ⟨rfl, hb⟩; have HD := Aside0.mk (HC.out.below hb); clear hb c0 c1))
        go_ret
        exact ⟨ret_int (by rw [HE.out]; rfl), HD.out.bel⟩
end Go.Proofs.YtllbkppdkldmiaaGreatDoor.K

/- Walks: the reference's Ints. -/
namespace Go.Proofs.YtllbkppdkldmiaaGreatDoor.K
open Go.RowKit Go.Lib Go.Proofs.YtllbkppdkldmiaaGreatDoorW.PrintWords Go.Proofs.YtllbkppdkldmiaaGreatDoor.Sp
set_option linter.unusedVariables false
set_option linter.unusedSimpArgs false
/-- Numbers that are read. -/
structure ReadsI (W : World) (A : Option Addr) (l : List Nat) : Prop where mk ::
  out : l = [] ∨ ∃ g o, A = some ⟨g, o, none⟩ ∧ ∀ i (h : i < l.length), W.cell? ⟨g, o + i, none⟩ = some (.int .i64 (l[i] : Int))
theorem ReadsI.below {W W' : World} {A : Option Addr} {l : List Nat} (h : ReadsI W A l) (hb : Below W.heap.size W W') : ReadsI W' A l :=
  ⟨h.out.imp id fun ⟨g, o, h1, h2⟩ => ⟨g, o, h1, fun i hi => (hb.cell (p := ⟨g, o + i, none⟩) (World.block_lt_of_cell? W _ (h2 i hi))).trans (h2 i hi)⟩⟩
theorem IntsAt.reads {W : World} {B : Nat} {v : Value} {l : List Nat} (h : IntsAt W B v l) : ∃ A cap, v = .slice A l.length cap ∧ ReadsI W A l := by
  obtain ⟨A, cap, hv, _, hx⟩ := h.out
  exact ⟨A, cap, hv, ⟨hx.imp id fun ⟨g, h1, _, _, h4⟩ => ⟨g, 0, h1, fun i hi => by rw [Nat.zero_add]; exact h4 i hi⟩⟩⟩
set_option maxRecDepth 100000 in
set_option maxHeartbeats 2000000 in
theorem intsr_c (W : World) (A1 A2 : Option Addr) (l1 l2 : List Nat) (c1 c2 : Nat) (h1 : ReadsI W A1 l1) (h2 : ReadsI W A2 l2) (hl1 : l1.length ≤ 1000000) (hl2 : l2.length ≤ 1000000) :
    Calls Tryz.prog 17 #[.slice A1 l1.length c1, .slice A2 l2.length c2] W fun e w' => e = .returned (.bool (decide (l1 = l2))) ∧ Below W.heap.size W w' := by
  have H1 := Aside0.mk h1
  have H2 := Aside0.mk h2
  have HB := Aside0.mk (Below.refl W.heap.size W)
  have k1 : (l1.length : Int) ≤ 1000000 := by omega
  have k2 : (l2.length : Int) ≤ 1000000 := by omega
  clear h1 h2
  cases hq : (l1.length == l2.length) with
  | false =>
    have q : (((l1.length : Nat) : Int) != ((l2.length : Nat) : Int)) = true := by rw [bne_iff_ne]; have := beq_eq_false_iff_ne.1 hq; omega
    have HE := Aside0.mk (show decide (l1 = l2) = false from decide_eq_false (fun h => by rw [h] at hq; simp at hq))
    have HQ := Aside0.mk (show l1.length ≠ l2.length from beq_eq_false_iff_ne.1 hq)
    clear hl1 hl2 hq
    generalize l1.length = n1 at *
    generalize l2.length = n2 at *
    go_enter Tryz.func17, Tryz.ntmps17
    go_wp2_with fail
    all_goals first
      | (go_ret; exact ⟨ret_bool HE.out.symm, HB.out⟩)
      | (exfalso; exact HQ.out (by omega))
      | (exfalso; omega)
  | true =>
    have hq := beq_iff_eq.1 hq
    have HE := Aside0.mk (show decide (l1 = l2) = decide (l1.drop 0 = l2.drop 0) by simp)
    have HLQ := Aside0.mk hq
    have q : (((l1.length : Nat) : Int) != ((l2.length : Nat) : Int)) = false := by rw [bne_eq_false_iff_eq]; omega
    rw [← hq]
    clear hl1 hl2 k2 hq q
    generalize hn1 : l1.length = n1 at *
    have HN1 := Aside0.mk hn1
    clear hn1
    go_enter Tryz.func17, Tryz.ntmps17
    go_wp2_with fail
    go_loopg [5] n1 (fun gg s5 wr => ∃ i : Nat, s5 = .int .i64 i ∧ i + gg = n1 ∧ Aside0 (Below W.heap.size W wr) ∧ Aside0 (ReadsI wr A1 l1 ∧ ReadsI wr A2 l2) ∧ Aside0 (decide (l1 = l2) = decide (l1.drop i = l2.drop i)))
    case atStart => exact ⟨0, rfl, by omega, HB, ⟨H1.out, H2.out⟩, HE⟩
    case round =>
      obtain ⟨i, rfl, hi, HW, HR, HD⟩ := hrel
      clear HB HE H1 H2
      cases gk with
      | zero =>
        have hn : ¬ ((i : Int) < (n1 : Int)) := by omega
        have HI := Aside0.mk (show i = n1 by omega)
        clear hi
        go_wp2_with fail
        go_ret
        refine ⟨ret_bool ?_, HW.out⟩
        rw [HD.out, HI.out, List.drop_of_length_le (by rw [HN1.out]; omega), List.drop_of_length_le (by rw [← HLQ.out]; omega)]
        rfl
      | succ g =>
        have hn : ((i : Int) < (n1 : Int)) := by omega
        have hn0 : 0 ≤ (i : Int) := by omega
        have HI := Aside0.mk (show i + 1 + g = n1 by omega)
        have hi1 : i < l1.length := by rw [HN1.out]; omega
        have hi2 : i < l2.length := by rw [← HLQ.out]; omega
        obtain ⟨g1, o1, rfl, r1⟩ := HR.out.1.out.resolve_left (by rintro rfl; simp at hi1)
        obtain ⟨g2, o2, rfl, r2⟩ := HR.out.2.out.resolve_left (by rintro rfl; simp at hi2)
        have e1 := r1 i hi1
        have e2 := r2 i hi2
        have hd := HD.out
        rw [List.drop_eq_getElem_cons hi1, List.drop_eq_getElem_cons hi2] at hd
        generalize l1[i] = x at *
        generalize l2[i] = y at *
        have HD2 := Aside0.mk hd
        have q : ((x : Int) != (y : Int)) = (x != y) := by rw [Bool.eq_iff_iff, bne_iff_ne, bne_iff_ne]; omega
        clear hi hd r1 r2
        cases hxy : (x != y)
        case true =>
          rw [hxy] at q
          have HXY := Aside0.mk (show x ≠ y by simpa using hxy)
          clear hxy HD
          go_wp2_with fail
          go_quiet (fail)
          go_wp2_with fail
          go_ret
          refine ⟨ret_bool ?_, pw_below_drewN HW.out _⟩
          rw [HD2.out]
          symm
          exact decide_eq_false (fun h => HXY.out (List.cons.inj h).1)
        case false =>
          rw [hxy] at q
          have HXY := Aside0.mk (show x = y by simpa using hxy)
          clear hxy HD
          go_wp2_with fail
          go_quiet (fail)
          go_wp2_with fail
          go_roundg g
          case measure => omega
          case rel =>
            refine ⟨i + 1, rfl, HI.out, ⟨pw_below_drewN HW.out _⟩, ⟨HR.out.1.below (pw_below_drewN (Below.refl _ _) _), HR.out.2.below (pw_below_drewN (Below.refl _ _) _)⟩, ⟨?_⟩⟩
            rw [HD2.out, HXY.out]
            simp
theorem intsA_c (W : World) (B1 B2 : Nat) (v1 v2 : Value) (l1 l2 : List Nat) (h1 : IntsAt W B1 v1 l1) (h2 : IntsAt W B2 v2 l2) (hl1 : l1.length ≤ 1000000) (hl2 : l2.length ≤ 1000000) :
    Calls Tryz.prog 17 #[v1, v2] W fun e w' => e = .returned (.bool (decide (l1 = l2))) ∧ Below W.heap.size W w' := by
  obtain ⟨A1, c1, rfl, r1⟩ := h1.reads
  obtain ⟨A2, c2, rfl, r2⟩ := h2.reads
  exact intsr_c W A1 A2 l1 l2 c1 c2 r1 r2 hl1 hl2
end Go.Proofs.YtllbkppdkldmiaaGreatDoor.K

/- The check laws' live: some answers, by the contracts and the kernel's reckoning. -/
namespace Go.Proofs.YtllbkppdkldmiaaGreatDoor.K
open Go.RowKit Go.Lib Go.Proofs.YtllbkppdkldmiaaGreatDoorW.PrintWords Go.Proofs.YtllbkppdkldmiaaGreatDoor.Sp
set_option linter.unusedVariables false
set_option linter.unusedSimpArgs false
abbrev startC : ByteArray := ⟨#[82, 78, 66, 65, 75, 65, 66, 78, 82, 46, 46, 46, 46, 46, 46, 46, 46, 46, 46, 67, 46, 46, 46, 46, 46, 67, 46, 80, 46, 80, 46, 80, 46, 80, 46, 80, 46, 46, 46, 46, 46, 46, 46, 46, 46, 46, 46, 46, 46, 46, 46, 46, 46, 46, 112, 46, 112, 46, 112, 46, 112, 46, 112, 46, 99, 46, 46, 46, 46, 46, 99, 46, 46, 46, 46, 46, 46, 46, 46, 46, 46, 114, 110, 98, 97, 107, 97, 98, 110, 114]⟩
theorem start_att : attS startC 82 0 = [19] ∧ attS startC 18 0 = [0, 1, 2, 25] ∧ genS startC 1 = 85 ∧ genS ⟨#[]⟩ 0 = -1 ∧ facS startC = false ∧ inS startC 1 = false ∧ inS (putS startC 76 82) 1 = true ∧ wellS ⟨startC, 0, 0, 1⟩ = 0 ∧ wellS ⟨⟨#[]⟩, 0, 0, 0⟩ = 1 := by decide +kernel
/-- A literal's numbers. -/
theorem reads_lit (W : World) (l : List Nat) : ReadsI (W.alloc (.cells (l.map fun (n : Nat) => Value.int .i64 (n : Int)).toArray 3)) (some ⟨W.heap.size, 0, none⟩) l :=
  ⟨.inr ⟨W.heap.size, 0, rfl, fun i hi => by simp [World.cell?_alloc_at, hi]⟩⟩
set_option maxRecDepth 100000 in
set_option maxHeartbeats 4000000 in
theorem live7_c (w : World) (hT : TabW w) : Calls Tryz.prog 16 #[] w fun e w' => e = .returned (.bool true) ∧ Below w.heap.size w w' := by
  have HT := Aside0.mk (fun (W : World) (hb : Below w.heap.size w W) => hT.below hb)
  obtain ⟨a1, a2, a3, a4, a5, a6, a7, a8, a9⟩ := start_att
  have HP := Aside0.mk (fun W => put_c startC 76 82 (by omega) W)
  have H1 := Aside0.mk (fun (W : World) (hT : TabW W) => att_c startC 82 0 W hT)
  have H2 := Aside0.mk (fun (W : World) (hT : TabW W) => att_c startC 18 0 W hT)
  have H3 := Aside0.mk (fun (W : World) (hT : TabW W) => gen_c startC 1 W hT)
  have H4 := Aside0.mk (fun (W : World) (hT : TabW W) => gen_c ⟨#[]⟩ 0 W hT)
  have H5 := Aside0.mk (fun (W : World) (hT : TabW W) => fac_c startC W hT)
  have H6 := Aside0.mk (fun (W : World) (hT : TabW W) => in_c startC 1 W hT)
  have H7 := Aside0.mk (fun (W : World) (hT : TabW W) => in_c (putS startC 76 82) 1 W hT)
  have H8 := Aside0.mk (fun (W : World) (hT : TabW W) => well_c ⟨startC, 0, 0, 1⟩ W hT)
  have H9 := Aside0.mk (fun (W : World) (hT : TabW W) => well_c ⟨⟨#[]⟩, 0, 0, 0⟩ W hT)
  rw [a1] at H1
  rw [a2] at H2
  rw [a3] at H3
  rw [a4] at H4
  rw [a5] at H5
  rw [a6] at H6
  rw [a7] at H7
  rw [a8] at H8
  rw [a9] at H9
  have HW := Aside0.mk (WeAt.new w ⟨startC, 0, 0, 1⟩)
  clear hT a1 a2 a3 a4 a5 a6 a7 a8 a9
  generalize putS startC 76 82 = inn at *
  have hu := Tryz.underlying33
  go_enter Tryz.func16, Tryz.ntmps16
  go_wp2_with fail
  refine (HP.out _).mono ?_
  rintro e w1 ⟨rfl, hb⟩
  have HW1 := Aside0.mk (HW.out.below hb)
  clear hb HW HP
  go_wp2_with fail
  refine (H1.out _ (HT.out _ HW1.out.bel)).mono ?_
  rintro e w2 ⟨v2, rfl, hv, hb⟩
  have HW2 := Aside0.mk (HW1.out.below hb)
  have HV2 := Aside0.mk (hv.reads)
  clear hb hv HW1 H1
  go_wp2_with fail
  obtain ⟨A2, c2, rfl, r2⟩ := HV2.out
  refine (intsr_c _ A2 _ [19] [19] c2 1 (r2.below (below_alloc (Below.refl _ _) _)) (reads_lit w2 [19]) (by simp) (by simp)).mono ?_
  rintro e w3 ⟨rfl, hb⟩
  have HW3 := Aside0.mk ((HW2.out.below (below_alloc (Below.refl _ _) _)).below hb)
  clear hb HW2 HV2 r2
  go_wp2_with fail
  refine (H2.out _ (HT.out _ HW3.out.bel)).mono ?_
  rintro e w4 ⟨v4, rfl, hv, hb⟩
  have HW4 := Aside0.mk (HW3.out.below hb)
  have HV4 := Aside0.mk (hv.reads)
  clear hb hv HW3 H2
  go_wp2_with fail
  obtain ⟨A4, c4, rfl, r4⟩ := HV4.out
  refine (intsr_c _ A4 _ [0, 1, 2, 25] [0, 1, 2, 25] c4 4 (r4.below (below_alloc (Below.refl _ _) _)) (reads_lit w4 [0, 1, 2, 25]) (by simp) (by simp)).mono ?_
  rintro e w5 ⟨rfl, hb⟩
  have HW5 := Aside0.mk ((HW4.out.below (below_alloc (Below.refl _ _) _)).below hb)
  clear hb HW4 HV4 r4
  go_wp2_with fail
  refine (H3.out _ (HT.out _ HW5.out.bel)).mono ?_
  rintro e w6 ⟨rfl, hb⟩
  have HW6 := Aside0.mk (HW5.out.below hb)
  clear hb HW5 H3
  go_wp2_with fail
  refine (H4.out _ (HT.out _ HW6.out.bel)).mono ?_
  rintro e w7 ⟨rfl, hb⟩
  have HW7 := Aside0.mk (HW6.out.below hb)
  clear hb HW6 H4
  go_wp2_with fail
  refine (H5.out _ (HT.out _ HW7.out.bel)).mono ?_
  rintro e w8 ⟨rfl, hb⟩
  have HW8 := Aside0.mk (HW7.out.below hb)
  clear hb HW7 H5
  go_wp2_with fail
  refine (H6.out _ (HT.out _ HW8.out.bel)).mono ?_
  rintro e w9 ⟨rfl, hb⟩
  have HW9 := Aside0.mk (HW8.out.below hb)
  clear hb HW8 H6
  go_wp2_with fail
  refine (H7.out _ (HT.out _ HW9.out.bel)).mono ?_
  rintro e w10 ⟨rfl, hb⟩
  have HW10 := Aside0.mk (HW9.out.below hb)
  clear hb HW9 H7
  obtain ⟨e0, e1, e2, e3, _⟩ := HW10.out
  go_wp2_with fail
  refine (H8.out _ (HT.out _ HW10.out.bel)).mono ?_
  rintro e w11 ⟨rfl, hb⟩
  have HW11 := Aside0.mk (HW10.out.below hb)
  clear hb HW10 H8 e0 e1 e2 e3
  go_wp2_with fail
  refine (H9.out _ (HT.out _ HW11.out.bel)).mono ?_
  rintro e w12 ⟨rfl, hb⟩
  have HW12 := Aside0.mk (HW11.out.below hb)
  clear hb HW11 H9
  go_wp2_with fail
  go_ret
  exact ⟨rfl, HW12.out.bel⟩
end Go.Proofs.YtllbkppdkldmiaaGreatDoor.K

/- CheckAttacks: the walk. -/
namespace Go.Proofs.YtllbkppdkldmiaaGreatDoor.K
open Go.RowKit Go.Lib Go.Proofs.YtllbkppdkldmiaaGreatDoorW.PrintWords Go.Proofs.YtllbkppdkldmiaaGreatDoor.Sp
set_option linter.unusedVariables false
set_option linter.unusedSimpArgs false
set_option maxRecDepth 100000 in
set_option maxHeartbeats 4000000 in
theorem attacksLaw (w : World) (s : ByteArray) (n a : Int) (hmx : s.size ≤ maxLen) (hT : TabW w) : Calls Tryz.prog 3 #[.string s, .int .i64 n, .int .i64 a] w fun e w' => e = .returned (.bool true) ∧ Below w.heap.size w w' := by
  have HT := Aside0.mk (fun (W : World) (hb : Below w.heap.size w W) => hT.below hb)
  have HLV := Aside0.mk (fun (W : World) (hT : TabW W) => live7_c W hT)
  have HB0 := Aside0.mk (Below.refl w.heap.size w)
  by_cases h200 : s.size > 200
  · have h1 : (200 : Int) < (s.size : Int) := by omega
    clear h200 hmx hT
    go_enter Tryz.func3, Tryz.ntmps3
    go_wp2_with (go_at_call 16; refine (HLV.out _ (HT.out _ HB0.out)).mono ?_; rintro e w1 ⟨rfl, hb⟩; have HW1 := Aside0.mk hb; clear hb)
    go_ret
    exact ⟨rfl, HW1.out⟩
  have h1 : (s.size : Int) ≤ 200 := by omega
  have HA := Aside0.mk (fun (W : World) (hT : TabW W) => att_c s n a W hT)
  have HRA := Aside0.mk (fun W => ratt_c s hmx n a W)
  have HG := Aside0.mk (fun (W : World) (hT : TabW W) => gen_c s a W hT)
  have HRG := Aside0.mk (fun W => rgen_c s hmx a W)
  have HF := Aside0.mk (fun (W : World) (hT : TabW W) => fac_c s W hT)
  have HRF := Aside0.mk (fun W => rfac_c s hmx W)
  have HI := Aside0.mk (fun (W : World) (hT : TabW W) => in_c s a W hT)
  have HRI := Aside0.mk (fun W => rin_c s hmx a W)
  have HL := Aside0.mk (show (attS s n a).length ≤ 1000000 by have := attS_len s n a; omega)
  generalize attS s n a = l at *
  generalize genS s a = g at *
  generalize facS s = f at *
  generalize inS s a = i at *
  have HIN := Aside0.mk (fun (W : World) (B1 B2 : Nat) (v1 v2 : Value) (h1 : IntsAt W B1 v1 l) (h2 : IntsAt W B2 v2 l) => intsA_c W B1 B2 v1 v2 l l h1 h2 HL.out HL.out)
  rw [show decide (l = l) = true by simp] at HIN
  clear h200 hmx hT
  go_enter Tryz.func3, Tryz.ntmps3
  go_wp2_with (first
    | (go_at_call 18; refine (HA.out _ (HT.out _ HB0.out)).mono ?_; rintro e w1 ⟨v1, rfl, hv, hb⟩; have HB1 := Aside0.mk hb; have HV1 := Aside0.mk hv; clear hb hv)
    | (go_at_call 19; refine (HRA.out _).mono ?_; rintro e w2 ⟨v2, rfl, hv, hb⟩; have HB2 := Aside0.mk (HB1.out.trans (hb.mono HB1.out.size)); have HV1' := Aside0.mk (HV1.out.below hb); have HV2 := Aside0.mk hv; clear hb hv)
    | (go_at_call 17; refine (HIN.out _ _ _ _ _ HV1'.out HV2.out).mono ?_; rintro e w3 ⟨rfl, hb⟩; have HB3 := Aside0.mk (HB2.out.trans (hb.mono HB2.out.size)); clear hb)
    | (go_at_call 20; refine (HG.out _ (HT.out _ HB3.out)).mono ?_; rintro e w4 ⟨rfl, hb⟩; have HB4 := Aside0.mk (HB3.out.trans (hb.mono HB3.out.size)); clear hb)
    | (go_at_call 21; refine (HRG.out _).mono ?_; rintro e w5 ⟨rfl, hb⟩; have HB5 := Aside0.mk (HB4.out.trans (hb.mono HB4.out.size)); clear hb)
    | (go_at_call 22; refine (HF.out _ (HT.out _ HB5.out)).mono ?_; rintro e w6 ⟨rfl, hb⟩; have HB6 := Aside0.mk (HB5.out.trans (hb.mono HB5.out.size)); clear hb)
    | (go_at_call 23; refine (HRF.out _).mono ?_; rintro e w7 ⟨rfl, hb⟩; have HB7 := Aside0.mk (HB6.out.trans (hb.mono HB6.out.size)); clear hb)
    | (go_at_call 24; refine (HI.out _ (HT.out _ HB7.out)).mono ?_; rintro e w8 ⟨rfl, hb⟩; have HB8 := Aside0.mk (HB7.out.trans (hb.mono HB7.out.size)); clear hb)
    | (go_at_call 25; refine (HRI.out _).mono ?_; rintro e w9 ⟨rfl, hb⟩; have HB9 := Aside0.mk (HB8.out.trans (hb.mono HB8.out.size)); clear hb)
    | (go_at_call 16; refine (HLV.out _ (HT.out _ HB9.out)).mono ?_; rintro e w10 ⟨rfl, hb⟩; have HB10 := Aside0.mk (HB9.out.trans (hb.mono HB9.out.size)); clear hb))
  go_ret
  exact ⟨rfl, HB10.out⟩
end Go.Proofs.YtllbkppdkldmiaaGreatDoor.K
