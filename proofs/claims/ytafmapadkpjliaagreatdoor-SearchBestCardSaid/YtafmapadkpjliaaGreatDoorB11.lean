/- Walks and plain laws that several statements lean on, joined: no statement of the seat is proved here. -/
import Derived.Deep.RegionHeld3
import Derived.Deep.Cut
import Derived.Deep.CutBlock
import Derived.Test.YtafmapadkpjliaaGreatDoorB10
import Derived.Test.YtafmapadkpjliaaGreatDoorB7
import Derived.Test.YtafmapadkpjliaaGreatDoorB9
import Derived.Test.YtafmapadkpjliaaGreatDoorB5

/- Plain law of search: the best one of some moves, within narrowing bounds; how many positions are looked at. -/
namespace Go.Proofs.YtafmapadkpjliaaGreatDoor.K
open Go.RowKit Go.Lib Go.Proofs.YtafmapadkpjliaaGreatDoorW.PrintWords Go.Proofs.YtafmapadkpjliaaGreatDoor.Sp
set_option linter.unusedVariables false
set_option linter.unusedSimpArgs false
/-- The first best one. -/
def fbF (f : Mv → Int) : Option (Mv × Int) → Mv → Option (Mv × Int)
  | none, m => some (m, f m)
  | some (b, v), m => if v < f m then some (m, f m) else some (b, v)
def firstB (f : Mv → Int) (l : List Mv) : Option (Mv × Int) := l.foldl (fbF f) none
theorem firstB_snoc (f : Mv → Int) (l : List Mv) (m : Mv) : firstB f (l ++ [m]) = fbF f (firstB f l) m := by simp [firstB]
theorem firstB_nil (f : Mv → Int) : firstB f [] = none := rfl
theorem fbF_some (f : Mv → Int) (o : Option (Mv × Int)) (m : Mv) : ∃ b v, fbF f o m = some (b, v) := by
  cases o with
  | none => exact ⟨_, _, rfl⟩
  | some x =>
    obtain ⟨b, v⟩ := x
    by_cases h : v < f m
    · exact ⟨m, f m, by simp [fbF, h]⟩
    · exact ⟨b, v, by simp [fbF, h]⟩
theorem firstB_take (f : Mv → Int) (l : List Mv) (i : Nat) (hi : i < l.length) : firstB f (l.take (i + 1)) = fbF f (firstB f (l.take i)) l[i] := by
  rw [List.take_succ_eq_append_getElem hi, firstB_snoc]
theorem firstB_congr {f g : Mv → Int} {l : List Mv} (h : ∀ m ∈ l, f m = g m) : firstB f l = firstB g l := by
  have key : ∀ (l : List Mv) (o : Option (Mv × Int)), (∀ m ∈ l, f m = g m) → l.foldl (fbF f) o = l.foldl (fbF g) o := by
    intro l
    induction l with
    | nil => exact fun _ _ => rfl
    | cons m r ih =>
      intro o h
      have hm := h m List.mem_cons_self
      have e : fbF f o m = fbF g o m := by
        cases o with
        | none => simp only [fbF, hm]
        | some x => obtain ⟨b, v⟩ := x; simp only [fbF, hm]
      show r.foldl (fbF f) (fbF f o m) = r.foldl (fbF g) (fbF g o m)
      rw [e]
      exact ih _ (fun x hx => h x (List.mem_cons_of_mem _ hx))
  exact key l none h
/-- What is in it is one of them, and its worth. -/
theorem firstB_mem (f : Mv → Int) : ∀ (l : List Mv) (b : Mv) (v : Int), firstB f l = some (b, v) → b ∈ l ∧ v = f b := by
  have key : ∀ (l : List Mv) (o : Option (Mv × Int)) (b : Mv) (v : Int), (∀ b v, o = some (b, v) → v = f b) → l.foldl (fbF f) o = some (b, v) → (b ∈ l ∨ o = some (b, v)) ∧ v = f b := by
    intro l
    induction l with
    | nil => exact fun o b v h he => ⟨.inr he, h b v he⟩
    | cons m r ih =>
      intro o b v h he
      have h2 : ∀ b v, fbF f o m = some (b, v) → v = f b := by
        intro b v hb
        cases o with
        | none => simp only [fbF, Option.some.injEq, Prod.mk.injEq] at hb; rw [← hb.2, ← hb.1]
        | some x =>
          obtain ⟨b0, v0⟩ := x
          simp only [fbF] at hb
          split at hb
          · simp only [Option.some.injEq, Prod.mk.injEq] at hb; rw [← hb.2, ← hb.1]
          · exact h b v hb
      obtain ⟨h3, h4⟩ := ih (fbF f o m) b v h2 he
      refine ⟨?_, h4⟩
      rcases h3 with h3 | h3
      · exact .inl (List.mem_cons_of_mem _ h3)
      · cases o with
        | none => simp only [fbF, Option.some.injEq, Prod.mk.injEq] at h3; exact .inl (h3.1 ▸ List.mem_cons_self)
        | some x =>
          obtain ⟨b0, v0⟩ := x
          simp only [fbF] at h3
          split at h3
          · simp only [Option.some.injEq, Prod.mk.injEq] at h3; exact .inl (h3.1 ▸ List.mem_cons_self)
          · exact .inr h3
  intro l b v he
  obtain ⟨h1, h2⟩ := key l none b v (fun _ _ h => by cases h) he
  rcases h1 with h1 | h1
  · exact ⟨h1, h2⟩
  · cases h1
/-- Its worth is the best of all. -/
theorem firstB_best (f : Mv → Int) (c : Int) : ∀ (l : List Mv) (b : Mv) (v : Int), (∀ m ∈ l, c ≤ f m) → firstB f l = some (b, v) → v = bestF f c l := by
  have key : ∀ (l : List Mv) (b0 : Mv) (v0 : Int) (b : Mv) (v : Int), l.foldl (fbF f) (some (b0, v0)) = some (b, v) → v = bestF f v0 l := by
    intro l
    induction l with
    | nil => intro b0 v0 b v he; simp only [List.foldl_nil, Option.some.injEq, Prod.mk.injEq] at he; exact he.2.symm
    | cons m r ih =>
      intro b0 v0 b v he
      simp only [List.foldl_cons, fbF] at he
      rw [bestF_cons]
      by_cases h : v0 < f m
      · rw [if_pos h] at he
        rw [ih _ _ _ _ he, show max v0 (f m) = f m by omega]
      · rw [if_neg h] at he
        rw [ih _ _ _ _ he, show max v0 (f m) = v0 by omega]
  intro l b v hc he
  cases l with
  | nil => cases he
  | cons m r =>
    have := hc m List.mem_cons_self
    rw [key r m (f m) b v he, bestF_cons, show max c (f m) = f m by omega]
/-- A round of root: the bounds that narrow tell just this. -/
theorem root_round {w r : Int} (h1 : -1073741824 ≤ r) (h2 : r < 1073741824) (h3 : -30000 ≤ w ∧ w ≤ 30000) : - clipI w (-1073741824) (-r) = max r (-w) := by unfold clipI; omega
/-- The worths of a position's moves. -/
def moveW (p : Pos) (d k : Nat) (m : Mv) : Int := - worthS d (movedB p.cells m.1 m.2) (1 - p.side) (clockB p.cells p.clock m) (k + 1)
theorem worth_more (p : Pos) (d k : Nat) (h1 : legalR p.cells p.side ≠ []) (h2 : ¬ (p.clock = 120 ∧ 0 < k)) : worthS (d + 1) p.cells p.side p.clock k = bestF (moveW p d k) (-1000000) (legalR p.cells p.side) := by
  show (if _ then _ else if _ then _ else _) = _
  rw [if_neg h1, if_neg h2]
  rfl
theorem worth_none (p : Pos) (d k : Nat) (h : legalR p.cells p.side = []) : worthS d p.cells p.side p.clock k = -10000 + (k : Int) := by
  cases d
  all_goals
    unfold worthS
    rw [if_pos h]
theorem worth_clock (p : Pos) (d k : Nat) (h : legalR p.cells p.side ≠ []) (h2 : p.clock = 120 ∧ 0 < k) : worthS d p.cells p.side p.clock k = 0 := by
  cases d
  all_goals
    unfold worthS
    rw [if_neg h, if_pos h2]
theorem worth_leaf (p : Pos) (k : Nat) (h : legalR p.cells p.side ≠ []) (h2 : ¬ (p.clock = 120 ∧ 0 < k)) : worthS 0 p.cells p.side p.clock k = quietP p := by
  unfold worthS
  rw [if_neg h, if_neg h2]
  rfl
/-- How many positions are looked at, at most: of so many moves at each, so deep. -/
def lookN (b : Nat) : Nat → Nat
  | 0 => 1
  | d + 1 => 1 + b * lookN b d
end Go.Proofs.YtafmapadkpjliaaGreatDoor.K

/- Plain law of quiet's two functions: Of, Window. -/
namespace Go.Proofs.YtafmapadkpjliaaGreatDoor.K
open Go.RowKit Go.Lib Go.Proofs.YtafmapadkpjliaaGreatDoorW.PrintWords Go.Proofs.YtafmapadkpjliaaGreatDoor.Sp
set_option linter.unusedVariables false
set_option linter.unusedSimpArgs false
def ofQ (p : Pos) : Int := if wellS p = 0 then quietP p else 0
theorem ofQ_le (p : Pos) : -30000 ≤ ofQ p ∧ ofQ p ≤ 30000 := by
  have := quietP_le p
  unfold ofQ
  split <;> omega
/-- What of it lies between two bounds; none, if these are none. -/
def winQ (p : Pos) (low high : Int) : Int := if high ≤ low then low else clipI (ofQ p) low high
theorem winQ_in {p : Pos} {low high : Int} (h : low < high) : winQ p low high = clipI (ofQ p) low high := if_neg (by omega)
theorem winQ_big {p : Pos} {low high : Int} (h : low < high) (h1 : 1073741824 ≤ low) : winQ p low high = low := by
  rw [winQ_in h]; have := ofQ_le p; unfold clipI; omega
theorem winQ_small {p : Pos} {low high : Int} (h : low < high) (h1 : high ≤ -1073741824) : winQ p low high = high := by
  rw [winQ_in h]; have := ofQ_le p; unfold clipI; omega
theorem winQ_cut {p : Pos} {low high : Int} (h : low < high) (h1 : ¬ 1073741824 ≤ low) (h2 : ¬ high ≤ -1073741824) : winQ p low high = clipI (ofQ p) (max low (-1073741824)) (min high 1073741824) := by
  rw [winQ_in h]; have := ofQ_le p; unfold clipI; omega
theorem winQ_of {p : Pos} : ofQ p = clipI (ofQ p) (-1073741824) 1073741824 := by have := ofQ_le p; unfold clipI; omega
theorem ofQ_turn {p : Pos} (hw : wellS p = 0) : ofQ (turnP p) = ofQ p := by
  obtain ⟨hbd, hsd, _⟩ := argOk_yes (checkP_parts (well_check hw)).1
  have hwt : wellS (turnP p) = 0 := by rw [well_turn hbd hsd, hw]
  unfold ofQ
  rw [if_pos hw, if_pos hwt, quiet_turn hw]
theorem winQ_turn {p : Pos} (hw : wellS p = 0) (low high : Int) : winQ (turnP p) low high = winQ p low high := by
  unfold winQ
  rw [ofQ_turn hw]
/-- **What lies between two bounds lies there; between wider ones it is the same.** -/
theorem win_wide {p : Pos} {low high : Int} (h : low < high) : (low ≤ winQ p low high ∧ winQ p low high ≤ high) ∧ (low < winQ p low high ∧ winQ p low high < high → winQ p (low - 50) (high + 50) = winQ p low high) ∧ (winQ p low high = low → winQ p (low - 50) (high + 50) ≤ low) ∧ (winQ p low high = high → high ≤ winQ p (low - 50) (high + 50)) := by
  rw [winQ_in h, winQ_in (show low - 50 < high + 50 by omega)]
  unfold clipI
  omega
/-- So few pieces. -/
theorem count_two : ∀ (l : List Nat) (p q r : Nat → Bool), (∀ i ∈ l, r i = (p i || q i) ∧ (p i && q i) = false) → l.countP p + l.countP q = l.countP r
  | [], _, _, _, _ => rfl
  | x :: l, p, q, r, h => by
    have ih := count_two l p q r (fun i hi => h i (List.mem_cons_of_mem _ hi))
    obtain ⟨h1, h2⟩ := h x List.mem_cons_self
    simp only [List.countP_cons]
    rw [h1]
    cases hp : p x <;> cases hq : q x <;> simp_all <;> omega
theorem nP_count {s : ByteArray} (hs : isBoard s = true) : nP s = ((List.range 90).filter (fun i => cel s i != 46)).length := by
  unfold nP piecesS
  rw [if_pos hs, if_pos hs, ← List.countP_eq_length_filter, ← List.countP_eq_length_filter, ← List.countP_eq_length_filter]
  refine count_two _ _ _ _ (fun i hi => ?_)
  rcases letter_side _ (board_cell hs (List.mem_range.1 hi)) with ⟨h1, h2⟩ | ⟨h1, h2⟩ | ⟨h1, h2⟩
  · rw [h1, show sideN 46 = -1 from rfl]; decide
  · rw [h2]; simp [h1]
  · rw [h2]; simp [h1]
end Go.Proofs.YtafmapadkpjliaaGreatDoor.K

/- Plain law of search: clocks behind moves; how many moves few pieces have; what within's loop tells. -/
namespace Go.Proofs.YtafmapadkpjliaaGreatDoor.K
open Go.RowKit Go.Lib Go.Proofs.YtafmapadkpjliaaGreatDoorW.PrintWords Go.Proofs.YtafmapadkpjliaaGreatDoor.Sp
set_option linter.unusedVariables false
set_option linter.unusedSimpArgs false
theorem step_clock {p q : Pos} {m : Mv} {c : Nat} (hm : m ∈ legalL p) (h : makeP p (mviOf m) = (q, c, 0)) : q.clock = clockB p.cells p.clock m := by
  obtain ⟨hw, hg, hs⟩ := legal_mem.1 hm
  have hck := well_check hw
  obtain ⟨hbd, hsd, _⟩ := argOk_yes (checkP_parts hck).1
  obtain ⟨_, h1, h2, h3, h4, _⟩ := gath_mem hg
  rw [make_ok hw hs, apply_good hck (safe_is_good hck hs)] at h
  have hq := congrArg (fun x => x.1.clock) h
  simp only at hq
  rw [← hq]
  unfold clockB
  rw [← at_cel hbd h2]
/-- A move's worth is that of what lies behind. -/
theorem step_worth {p q : Pos} {m : Mv} {c : Nat} (d k : Nat) (hm : m ∈ legalL p) (h : makeP p (mviOf m) = (q, c, 0)) : moveW p d k m = - worthS d q.cells q.side q.clock (k + 1) := by
  obtain ⟨q', c', h1, h2, h3, h4, h5⟩ := legal_step8 hm
  rw [h] at h1
  obtain ⟨rfl, _⟩ := Prod.mk.inj h1
  rw [h4, h5, step_clock hm h]
  rfl
theorem gathM_own (s : ByteArray) (a : Int) (q : Nat → Bool) (n : Nat) : (gathM s a q n).length ≤ 90 * (List.range n).countP (fun i => decide (sideN (cel s i) = a)) := by
  induction n with
  | zero => simp [gathM]
  | succ n ih =>
    rw [gathM_succ, List.length_append, List.range_succ, List.countP_append]
    have := fromM_len s a q n
    by_cases h : sideN (cel s n) = a
    · simp only [List.countP_cons, List.countP_nil, h, decide_true, if_true]
      omega
    · have e : fromM s a q n = [] := by unfold fromM; rw [if_neg h]
      rw [e]
      simp only [List.length_nil]
      omega
theorem legalR_few {p : Pos} (hw : wellS p = 0) : (legalR p.cells p.side).length ≤ 90 * nP p.cells := by
  obtain ⟨hbd, hsd, _⟩ := argOk_yes (checkP_parts (well_check hw)).1
  have h1 : (legalR p.cells p.side).length ≤ 90 * (List.range 90).countP (fun i => decide (sideN (cel p.cells i) = p.side)) := Nat.le_trans (List.length_filter_le _ _) (gathM_own _ _ _ 90)
  have h2 : (piecesS p.cells p.side).length = (List.range 90).countP (fun i => decide (sideN (cel p.cells i) = p.side)) := by
    unfold piecesS
    rw [if_pos hbd, ← List.countP_eq_length_filter]
    refine List.countP_congr (fun i _ => ?_)
    rcases hsd with e | e <;> rw [e] <;> simp
  have h3 : (piecesS p.cells p.side).length ≤ nP p.cells := by
    unfold nP
    rcases hsd with e | e <;> rw [e] <;> omega
  rw [← h2] at h1
  omega
theorem lookN_pos (b d : Nat) : 1 ≤ lookN b d := by
  cases d with
  | zero => exact Nat.le_refl _
  | succ d => show 1 ≤ 1 + b * lookN b d; omega
theorem step_few {p q : Pos} {m : Mv} {c : Nat} (h : OkMv p q m c) : nP q.cells ≤ nP p.cells := by
  have := h.count
  omega
theorem moveW_le (p : Pos) (d k : Nat) (h : k + d ≤ 900) (m : Mv) : -30000 ≤ moveW p d k m ∧ moveW p d k m ≤ 30000 := by
  have := worthS_le d (movedB p.cells m.1 m.2) (1 - p.side) (clockB p.cells p.clock m) (k + 1) (by omega)
  unfold moveW
  omega
/-- The worth is the best of all, from as far below as one likes; in any order. -/
theorem worth_best {p : Pos} {d k : Nat} (hk : k + d ≤ 900) (h1 : legalR p.cells p.side ≠ []) (h2 : ¬ (p.clock = 120 ∧ 0 < k)) {ys : List Mv} (hp : ys.Perm (legalR p.cells p.side)) : worthS (d + 1) p.cells p.side p.clock k = bestF (moveW p d k) (-1073741824) ys := by
  rw [worth_more p d k h1 h2, bestF_low (moveW p d k) h1 (c := -1073741824) (fun m _ => by have := moveW_le p d k hk m; omega)]
  exact (bestF_perm _ hp _).symm
theorem clip_in (v low high : Int) (h : low ≤ high) : low ≤ clipI v low high ∧ clipI v low high ≤ high := by unfold clipI; omega
/-- What is left, so many rounds on. -/
theorem look_sum {L i x y z : Int} (h1 : x - i * L ≤ y) (h2 : y - L ≤ z) : x - (i + 1) * L ≤ z := by
  rw [Int.add_mul]; omega
theorem firstB_some (f : Mv → Int) : ∀ (l : List Mv), l ≠ [] → ∃ b v, firstB f l = some (b, v) := by
  intro l
  rcases List.eq_nil_or_concat l with h | ⟨r, m, h⟩
  · exact fun hn => absurd h hn
  · intro _
    rw [h, List.concat_eq_append, firstB_snoc]
    exact fbF_some _ _ _
end Go.Proofs.YtafmapadkpjliaaGreatDoor.K

/- search: the finder in memory; order. -/
namespace Go.Proofs.YtafmapadkpjliaaGreatDoor.K
open Go.RowKit Go.Lib Go.Proofs.YtafmapadkpjliaaGreatDoorW.PrintWords Go.Proofs.YtafmapadkpjliaaGreatDoorW.PrintLast Go.Proofs.YtafmapadkpjliaaGreatDoorW.PrintMore Go.Proofs.YtafmapadkpjliaaGreatDoor.Sp
set_option linter.unusedVariables false
set_option linter.unusedSimpArgs false
theorem ken_set (w : World) (g o : Nat) (u : Value) : Ken (fun k => k = g) w (w.setCell ⟨g, o, none⟩ u) := Ken.setCell (S := fun k => k = g) (Ken.refl _ w) (p := ⟨g, o, none⟩) (.inl rfl) u
/-- A finder in block fb, its table in block tb, the slots in block sb: so many slots are full, so many positions may still be looked at. -/
structure FinAt (W : World) (fb tb sb c : Nat) (left : Int) : Prop where
  tp : W.cell? ⟨fb, 0, none⟩ = some (.pointer (some ⟨tb, 0, none⟩))
  lf : W.cell? ⟨fb, 1, none⟩ = some (.int .i64 left)
  fz : W.frozen? ⟨fb, 1, none⟩ = false
  tab : ∃ n T, P.TabAt W tb sb n T c
  n1 : fb ≠ tb
  n2 : fb ≠ sb
  g1 : 1 ≠ fb
  g2 : 1 ≠ tb
  g3 : 1 ≠ sb
/-- The finder's blocks. -/
def FinS (fb tb sb : Nat) (k : Nat) : Prop := k = fb ∨ k = tb ∨ k = sb
section
variable {W W' : World} {fb tb sb c : Nat} {left : Int}
theorem FinAt.lt (h : FinAt W fb tb sb c left) : fb < W.heap.size ∧ tb < W.heap.size ∧ sb < W.heap.size := by
  obtain ⟨n, T, ht⟩ := h.tab
  exact ⟨World.block_lt_of_cell? W _ h.lf, ht.lt.1, ht.lt.2⟩
theorem FinAt.slt (h : FinAt W fb tb sb c left) {k : Nat} (hk : FinS fb tb sb k) : k < W.heap.size := by
  obtain ⟨h1, h2, h3⟩ := h.lt
  rcases hk with rfl | rfl | rfl <;> assumption
theorem FinAt.below (h : FinAt W fb tb sb c left) (hb : Below W.heap.size W W') : FinAt W' fb tb sb c left := by
  obtain ⟨n, T, ht⟩ := h.tab
  exact ⟨below_cell hb _ _ _ h.tp, below_cell hb _ _ _ h.lf, (hb.frozen (p := ⟨fb, 1, none⟩) h.lt.1).trans h.fz, ⟨n, T, ht.below hb⟩, h.n1, h.n2, h.g1, h.g2, h.g3⟩
theorem FinAt.drew (h : FinAt W fb tb sb c left) : FinAt W.drew fb tb sb c left := h.below (pw_below_drewN (Below.refl _ _) 1)
/-- All but a block that is none of the finder's is kept. -/
theorem tab_ken {S : Nat → Prop} {n : Nat} {T : Nat → Option P.Ent} (h : P.TabAt W tb sb n T c) (hk : Ken S W W') (h1 : ¬ S tb) (h2 : ¬ S sb) : P.TabAt W' tb sb n T c := by
  obtain ⟨l1, l2⟩ := h.lt
  refine ⟨hk.cell h.ptr h1, hk.cell h.cnt h1, (hk.free l1 h1).trans h.fz, fun i j hi hj => ?_, fun i => (hk.free l2 h2).trans (h.fzs i), h.ne, h.pos, h.most⟩
  exact (World.cell?_of_block (w := W) (hk.block sb l2 h2)).trans (h.cells i j hi hj)
theorem FinAt.ken {S : Nat → Prop} (h : FinAt W fb tb sb c left) (hk : Ken S W W') (hs : ∀ k, FinS fb tb sb k → ¬ S k) : FinAt W' fb tb sb c left := by
  obtain ⟨n, T, ht⟩ := h.tab
  have s1 := hs fb (.inl rfl)
  have s2 := hs tb (.inr (.inl rfl))
  have s3 := hs sb (.inr (.inr rfl))
  exact ⟨hk.cell h.tp s1, hk.cell h.lf s1, (hk.free h.lt.1 s1).trans h.fz, ⟨n, T, tab_ken ht hk s2 s3⟩, h.n1, h.n2, h.g1, h.g2, h.g3⟩
/-- One fewer may be looked at. -/
theorem FinAt.less (h : FinAt W fb tb sb c left) (left' : Int) : FinAt (W.setCell ⟨fb, 1, none⟩ (.int .i64 left')) fb tb sb c left' := by
  obtain ⟨n, T, ht⟩ := h.tab
  have hk : Ken (fun k => k = fb) W (W.setCell ⟨fb, 1, none⟩ (.int .i64 left')) := ken_set _ _ _ _
  refine ⟨?_, World.cell?_setCell_same' _ _ _ (by rw [h.lf]; rfl), by rw [World.frozen?_setCell]; exact h.fz, ⟨n, T, tab_ken ht hk (fun e => h.n1 e.symm) (fun e => h.n2 e.symm)⟩, h.n1, h.n2, h.g1, h.g2, h.g3⟩
  exact (World.cell?_setCell_other _ _ _ _ (by intro e; injection e with _ e2; omega)).trans h.tp
/-- Something was put in the table. -/
theorem FinAt.put {n c' : Nat} {T : Nat → Option P.Ent} (h : FinAt W fb tb sb c left) (ht : P.TabAt W' tb sb n T c') (hk : P.Turned tb sb W W') : FinAt W' fb tb sb c' left :=
  ⟨(hk.cell fb 0 h.lt.1 h.n1 h.n2).trans h.tp, (hk.cell fb 1 h.lt.1 h.n1 h.n2).trans h.lf, (World.frozen?_of_block (w := W) (hk.block fb h.lt.1 h.n1 h.n2)).trans h.fz, ⟨n, T, ht⟩, h.n1, h.n2, h.g1, h.g2, h.g3⟩
theorem tabW_ken {S : Nat → Prop} (hT : TabW W) (hk : Ken S W W') (h : ¬ S 1) : TabW W' := fun j hj => hk.cell (hT j hj) h
theorem FinAt.gS (h : FinAt W fb tb sb c left) : ¬ FinS fb tb sb 1 := by
  rintro (e | e | e)
  · exact h.g1 e
  · exact h.g2 e
  · exact h.g3 e
theorem ken_turned (hk : P.Turned tb sb W W') : Ken (FinS fb tb sb) W W' := ⟨⟨hk.os, hk.tape, hk.output, hk.size, fun k hk2 => absurd hk2 (Nat.not_lt_zero _)⟩, fun k hk2 hn => hk.block k hk2 (fun e => hn (.inr (.inl e))) (fun e => hn (.inr (.inr e)))⟩
end
theorem putF_count (T : Nat → Option P.Ent) (n c : Nat) (e : P.Ent) : (P.putF T n c e).2.2 ≤ c + 1 := by
  unfold P.putF
  split
  · exact Nat.le_succ _
  · split
    · exact Nat.le_refl _
    · split <;> exact Nat.le_succ _
end Go.Proofs.YtafmapadkpjliaaGreatDoor.K

/- search: order. -/
namespace Go.Proofs.YtafmapadkpjliaaGreatDoor.K
open Go.RowKit Go.Lib Go.Proofs.YtafmapadkpjliaaGreatDoorW.PrintWords Go.Proofs.YtafmapadkpjliaaGreatDoorW.PrintLast Go.Proofs.YtafmapadkpjliaaGreatDoorW.PrintMore Go.Proofs.YtafmapadkpjliaaGreatDoor.Sp
set_option linter.unusedVariables false
set_option linter.unusedSimpArgs false
theorem ken_keep {w w' : World} {b B : Nat} (hk : KeepBut w w' b none) (hb : Below B w w') : Ken (fun k => k = b) w w' := ⟨hb.mono (Nat.zero_le _), fun k hlt hne => hk.2 k hlt hne (by simp)⟩
theorem lt_two (n : Nat) : n < n + 1 + 1 := by omega
theorem bcell {W w1 : World} (hb : Below W.heap.size W w1) : (∀ b o, b < W.heap.size → w1.cell? ⟨b, o, none⟩ = W.cell? ⟨b, o, none⟩) ∧ (∀ b o, b < W.heap.size → w1.frozen? ⟨b, o, none⟩ = W.frozen? ⟨b, o, none⟩) :=
  ⟨fun b o h => hb.cell (p := ⟨b, o, none⟩) h, fun b o h => hb.frozen (p := ⟨b, o, none⟩) h⟩
/-- The table's Get, whatever it has. -/
theorem get_some {W : World} {tb sb n c : Nat} {T : Nat → Option P.Ent} (h : P.TabAt W tb sb n T c) (k : Int) (hk : U64 k) :
    Calls Tryz.prog 70 #[.pointer (some ⟨tb, 0, none⟩), .int .u64 k] W fun e w' => ∃ (k0 d0 s0 u0 f0 t0 : Int) (h0 : Bool), e = .returned (.tuple #[.agg #[.int .u64 k0, .int .i64 d0, .int .i64 s0, .int .i64 u0, .int .i64 f0, .int .i64 t0], .bool h0]) ∧ Below W.heap.size W w' :=
  (P.get_walk W tb sb n c T k hk.1 h).mono fun _ _ ⟨he, hb⟩ => ⟨_, _, _, _, _, _, _, he, hb⟩
/-- What stands behind order's first statement. -/
structure OrdAt (w0 W : World) (p : Pos) (base b cap : Nat) (xs : List Mv) (be bs : Nat) (h : Bool) (f d : Int) : Prop where
  gain : GainAt W bs be w0.heap.size p h f d
  own : W.ownsRow base 36 2 (.slice (some ⟨b, 0, none⟩) xs.length cap) xs.length (flatM xs)
  bel : Below w0.heap.size w0 W
  ge : w0.heap.size < be ∧ w0.heap.size < bs
theorem OrdAt.of {w0 W1 W : World} {p : Pos} {base b cap : Nat} {xs : List Mv} {be bs : Nat} {h : Bool} {f d : Int} (hx : BoxP W1 w0.heap.size p) (ho : W1.ownsRow base 36 2 (.slice (some ⟨b, 0, none⟩) xs.length cap) xs.length (flatM xs)) (h1 : Below w0.heap.size w0 W1) (hb : Below W1.heap.size W1 W)
    (ci : W.cell? ⟨bs, 0, none⟩ = some (.bool h)) (cf : W.cell? ⟨be, 4, none⟩ = some (.int .i64 f)) (cd : W.cell? ⟨be, 5, none⟩ = some (.int .i64 d)) (ge : w0.heap.size < be ∧ w0.heap.size < bs) : OrdAt w0 W p base b cap xs be bs h f d :=
  ⟨⟨hx.below hb, ci, cf, cd⟩, pw_own_below ho hb, below_go h1 hb, ge⟩
/-- What order leaves: the same moves in some order; all else as it was. -/
def OrdIs (base b cap : Nat) (xs : List Mv) (W : World) (e : Ending) (w' : World) : Prop :=
  e = .returned (.tuple #[]) ∧ ∃ cur : List Mv, cur.Perm xs ∧ w'.ownsRow base 36 2 (.slice (some ⟨b, 0, none⟩) xs.length cap) xs.length (flatM cur) ∧ Ken (fun k => k = b) W w'
set_option maxRecDepth 100000 in
set_option maxHeartbeats 8000000 in
theorem order_c (p : Pos) (hbd : isBoard p.cells = true) (fb tb sb c : Nat) (left : Int) (base b cap : Nat) (xs : List Mv) (w : World) (hf : FinAt w fb tb sb c left)
    (ho : w.ownsRow base 36 2 (.slice (some ⟨b, 0, none⟩) xs.length cap) xs.length (flatM xs)) (hbw : b < w.heap.size) (hxs : ∀ m ∈ xs, m.2 < 90) (hlen : xs.length ≤ 8100) :
    Calls Tryz.prog 41 #[.pointer (some ⟨fb, 0, none⟩), posV p, .slice (some ⟨b, 0, none⟩) xs.length cap] w (OrdIs base b cap xs w) := by
  have HK := Aside0.mk (fun W => kof_c p hbd W)
  have hB := below_alloc (Below.refl w.heap.size w) (.cells #[.string p.cells, .int .i64 p.side, .int .i64 p.clock, .int .i64 p.full] 23)
  have HX := Aside0.mk (And.intro (hf.below hB) (And.intro (pw_own_below ho hB) hB))
  have HBX := Aside0.mk (BoxP.new w p)
  have hlt : w.heap.size < (w.alloc (.cells #[.string p.cells, .int .i64 p.side, .int .i64 p.clock, .int .i64 p.full] 23)).heap.size := by simp
  have HFL := Aside0.mk hf.lt
  have HG := Aside0.mk (fun (W : World) (k : Int) (hk : U64 k) (hb : Below (w.alloc (.cells #[.string p.cells, .int .i64 p.side, .int .i64 p.clock, .int .i64 p.full] 23)).heap.size (w.alloc (.cells #[.string p.cells, .int .i64 p.side, .int .i64 p.clock, .int .i64 p.full] 23)) W) => by
    obtain ⟨n, T, ht⟩ := HX.out.1.tab
    exact get_some (ht.below hb) k hk)
  have HSORT := Aside0.mk (fun (be bs bg : Nat) (h : Bool) (f d : Int) (W : World) (hx : GainAt W bs be w.heap.size p h f d) (hg : W.cell? ⟨bg, 0, none⟩ = some (.func (.func 71) #[] #[.pointer (some ⟨bs, 0, none⟩), .pointer (some ⟨be, 0, none⟩), .pointer (some ⟨w.heap.size, 0, none⟩)]))
      (h0 : bg ≠ b) (h1 : bs ≠ b) (h2 : be ≠ b) (h3 : w.heap.size ≠ b) (ho : W.ownsRow base 36 2 (.slice (some ⟨b, 0, none⟩) xs.length cap) xs.length (flatM xs)) =>
    sortL_M 75 #[.pointer (some ⟨bg, 0, none⟩)] (lessI p h f d) (enters_of Tryz.func75 (by kernel_rfl) rfl) base b cap xs 0 W (less_cmp hbd hxs hx hg h0 h1 h2 h3) ⟨List.Perm.refl _, ho, KeepBut.refl _ _ _, Below.refl _ _, Nat.zero_le _, Nat.zero_le _⟩ (Nat.le_trans hlen (by decide)))
  have HBW := Aside0.mk hbw
  have hu := Tryz.underlying23
  have hu2 := Tryz.underlying84
  clear hf ho hB hbd hxs hlen hbw
  go_enter Tryz.func41, Tryz.ntmps41
  go_upto_region 1 with fail
  generalize w.alloc (.cells #[.string p.cells, .int .i64 p.side, .int .i64 p.clock, .int .i64 p.full] 23) = W1 at *
  have tp := HX.out.1.tp
  obtain ⟨c0, c1, c2, c3⟩ := HBX.out
  have n1 : W1.heap.size ≠ fb := by have := HX.out.1.lt; omega
  have n2 : W1.heap.size ≠ w.heap.size := by omega
  have n3 : W1.heap.size + 1 ≠ fb := by have := HX.out.1.lt; omega
  have n4 : W1.heap.size + 1 ≠ w.heap.size := by omega
  go_cut [6, 7] from 9 to 18 (fun s6 s7 wx => ∃ (be bs : Nat) (h : Bool) (f d : Int), s6 = .pointer (some ⟨be, 0, none⟩) ∧ s7 = .pointer (some ⟨bs, 0, none⟩) ∧ Aside0 (OrdAt w wx p base b cap xs be bs h f d))
  case first =>
    go_region_held3 (fun W => W.cell? ⟨fb, 0, none⟩ = some (.pointer (some ⟨tb, 0, none⟩)) ∧ W.cell? ⟨w.heap.size, 0, none⟩ = some (.string p.cells) ∧ W.cell? ⟨w.heap.size, 1, none⟩ = some (.int .i64 p.side) ∧ W.cell? ⟨w.heap.size, 2, none⟩ = some (.int .i64 p.clock) ∧ W.cell? ⟨w.heap.size, 3, none⟩ = some (.int .i64 p.full)) (go_keep)
      (first
        | (go_at_call 44; refine (HK.out _).mono ?_; rintro e w6 ⟨k, rfl, hk, hb⟩; have HKU := Aside0.mk hk; clear hk; have HB6 := Aside0.mk (below_go (show Below W1.heap.size W1 _ by (repeat' (first | (with_reducible exact Below.refl _ _) | (with_reducible refine pw_below_drewN ?_ _) | (with_reducible refine below_alloc ?_ _) | (with_reducible refine Below.drew ?_) | (with_reducible refine Below.setCell ?_ ?_ _) | (simp; done)))) hb); obtain ⟨hc6, hf6⟩ := bcell hb; have hL6 : ∀ b, b < _ → b < w6.heap.size := fun b h => Nat.lt_of_lt_of_le h hb.size; have hM6 : ∀ b, b < _ → b ≤ w6.heap.size := fun b h => Nat.le_of_lt (Nat.lt_of_lt_of_le h hb.size); have hP6 : ∀ b, b < _ → b ≠ w6.heap.size := fun b h => Nat.ne_of_lt (Nat.lt_of_lt_of_le h hb.size); have hQ6 : ∀ b, b < _ → w6.heap.size ≠ b := fun b h => (Nat.ne_of_lt (Nat.lt_of_lt_of_le h hb.size)).symm; have hR6 : ∀ b, b < _ → b ≠ w6.heap.size + 1 := fun b h => Nat.ne_of_lt (Nat.lt_succ_of_lt (Nat.lt_of_lt_of_le h hb.size)); have hS6 : ∀ b, b < _ → w6.heap.size + 1 ≠ b := fun b h => (Nat.ne_of_lt (Nat.lt_succ_of_lt (Nat.lt_of_lt_of_le h hb.size))).symm; clear hb; have hc6_0 := fun o => hc6 W1.heap.size o; (try simp [lt_two] at hc6_0); have hc6_1 := fun o => hc6 (W1.heap.size + 1) o; (try simp [lt_two] at hc6_1); have hf6_0 := fun o => hf6 W1.heap.size o; (try simp [lt_two] at hf6_0); have hf6_1 := fun o => hf6 (W1.heap.size + 1) o; (try simp [lt_two] at hf6_1); have hL6_0 := hL6 W1.heap.size; (try simp [lt_two] at hL6_0); have hL6_1 := hL6 (W1.heap.size + 1); (try simp [lt_two] at hL6_1); have hM6_0 := hM6 W1.heap.size; (try simp [lt_two] at hM6_0); have hM6_1 := hM6 (W1.heap.size + 1); (try simp [lt_two] at hM6_1); have hP6_0 := hP6 W1.heap.size; (try simp [lt_two] at hP6_0); have hP6_1 := hP6 (W1.heap.size + 1); (try simp [lt_two] at hP6_1); have hQ6_0 := hQ6 W1.heap.size; (try simp [lt_two] at hQ6_0); have hQ6_1 := hQ6 (W1.heap.size + 1); (try simp [lt_two] at hQ6_1); have hR6_0 := hR6 W1.heap.size; (try simp [lt_two] at hR6_0); have hR6_1 := hR6 (W1.heap.size + 1); (try simp [lt_two] at hR6_1); have hS6_0 := hS6 W1.heap.size; (try simp [lt_two] at hS6_0); have hS6_1 := hS6 (W1.heap.size + 1); (try simp [lt_two] at hS6_1); clear hc6 hf6 hL6 hM6 hP6 hQ6 hR6 hS6; have tp6 := below_cell HB6.out _ _ _ tp; have b0 := below_cell HB6.out _ _ _ c0; have b1 := below_cell HB6.out _ _ _ c1; have b2 := below_cell HB6.out _ _ _ c2; have b3 := below_cell HB6.out _ _ _ c3; have r6 := World.new_ne w6 _ tp6; have r7 := World.new_ne w6 _ b0; have r6b : w6.heap.size + 1 ≠ fb := Nat.ne_of_gt (Nat.lt_succ_of_lt (World.block_lt_of_cell? w6 _ tp6)); have r7b : w6.heap.size + 1 ≠ w.heap.size := Nat.ne_of_gt (Nat.lt_succ_of_lt (World.block_lt_of_cell? w6 _ b0)))
        | (go_at_call 70; refine (HG.out _ k HKU.out (show Below W1.heap.size W1 _ by repeat' (first | (with_reducible exact HB6.out) | refine below_new ?_ _))).mono ?_; rintro e w7 ⟨k0, d0, s0, u0, f0, t0, h0, rfl, hb⟩; have HB7 := Aside0.mk (below_go (show Below W1.heap.size W1 _ by repeat' (first | (with_reducible exact HB6.out) | refine below_new ?_ _)) hb); obtain ⟨hc7, hf7⟩ := bcell hb; have hL7 : ∀ b, b < _ → b < w7.heap.size := fun b h => Nat.lt_of_lt_of_le h hb.size; have hM7 : ∀ b, b < _ → b ≤ w7.heap.size := fun b h => Nat.le_of_lt (Nat.lt_of_lt_of_le h hb.size); have hP7 : ∀ b, b < _ → b ≠ w7.heap.size := fun b h => Nat.ne_of_lt (Nat.lt_of_lt_of_le h hb.size); have hQ7 : ∀ b, b < _ → w7.heap.size ≠ b := fun b h => (Nat.ne_of_lt (Nat.lt_of_lt_of_le h hb.size)).symm; have hR7 : ∀ b, b < _ → b ≠ w7.heap.size + 1 := fun b h => Nat.ne_of_lt (Nat.lt_succ_of_lt (Nat.lt_of_lt_of_le h hb.size)); have hS7 : ∀ b, b < _ → w7.heap.size + 1 ≠ b := fun b h => (Nat.ne_of_lt (Nat.lt_succ_of_lt (Nat.lt_of_lt_of_le h hb.size))).symm; clear hb; have hc7_0 := fun o => hc7 W1.heap.size o; (try simp [lt_two] at hc7_0); have hc7_1 := fun o => hc7 (W1.heap.size + 1) o; (try simp [lt_two] at hc7_1); have hc7_2 := fun o => hc7 w6.heap.size o; (try simp [lt_two] at hc7_2); have hc7_3 := fun o => hc7 (w6.heap.size + 1) o; (try simp [lt_two] at hc7_3); have hf7_0 := fun o => hf7 W1.heap.size o; (try simp [lt_two] at hf7_0); have hf7_1 := fun o => hf7 (W1.heap.size + 1) o; (try simp [lt_two] at hf7_1); have hf7_2 := fun o => hf7 w6.heap.size o; (try simp [lt_two] at hf7_2); have hf7_3 := fun o => hf7 (w6.heap.size + 1) o; (try simp [lt_two] at hf7_3); have hL7_0 := hL7 W1.heap.size; (try simp [lt_two] at hL7_0); have hL7_1 := hL7 (W1.heap.size + 1); (try simp [lt_two] at hL7_1); have hL7_2 := hL7 w6.heap.size; (try simp [lt_two] at hL7_2); have hL7_3 := hL7 (w6.heap.size + 1); (try simp [lt_two] at hL7_3); have hM7_0 := hM7 W1.heap.size; (try simp [lt_two] at hM7_0); have hM7_1 := hM7 (W1.heap.size + 1); (try simp [lt_two] at hM7_1); have hM7_2 := hM7 w6.heap.size; (try simp [lt_two] at hM7_2); have hM7_3 := hM7 (w6.heap.size + 1); (try simp [lt_two] at hM7_3); have hP7_0 := hP7 W1.heap.size; (try simp [lt_two] at hP7_0); have hP7_1 := hP7 (W1.heap.size + 1); (try simp [lt_two] at hP7_1); have hP7_2 := hP7 w6.heap.size; (try simp [lt_two] at hP7_2); have hP7_3 := hP7 (w6.heap.size + 1); (try simp [lt_two] at hP7_3); have hQ7_0 := hQ7 W1.heap.size; (try simp [lt_two] at hQ7_0); have hQ7_1 := hQ7 (W1.heap.size + 1); (try simp [lt_two] at hQ7_1); have hQ7_2 := hQ7 w6.heap.size; (try simp [lt_two] at hQ7_2); have hQ7_3 := hQ7 (w6.heap.size + 1); (try simp [lt_two] at hQ7_3); have hR7_0 := hR7 W1.heap.size; (try simp [lt_two] at hR7_0); have hR7_1 := hR7 (W1.heap.size + 1); (try simp [lt_two] at hR7_1); have hR7_2 := hR7 w6.heap.size; (try simp [lt_two] at hR7_2); have hR7_3 := hR7 (w6.heap.size + 1); (try simp [lt_two] at hR7_3); have hS7_0 := hS7 W1.heap.size; (try simp [lt_two] at hS7_0); have hS7_1 := hS7 (W1.heap.size + 1); (try simp [lt_two] at hS7_1); have hS7_2 := hS7 w6.heap.size; (try simp [lt_two] at hS7_2); have hS7_3 := hS7 (w6.heap.size + 1); (try simp [lt_two] at hS7_3); clear hc7 hf7 hL7 hM7 hP7 hQ7 hR7 hS7; clear tp6 b0 b1 b2 b3; have tp7 := below_cell HB7.out _ _ _ tp; have b0 := below_cell HB7.out _ _ _ c0; have b1 := below_cell HB7.out _ _ _ c1; have b2 := below_cell HB7.out _ _ _ c2; have b3 := below_cell HB7.out _ _ _ c3; have r8 := World.new_ne w7 _ tp7; have r9 := World.new_ne w7 _ b0; have r8b : w7.heap.size + 1 ≠ fb := Nat.ne_of_gt (Nat.lt_succ_of_lt (World.block_lt_of_cell? w7 _ tp7)); have r9b : w7.heap.size + 1 ≠ w.heap.size := Nat.ne_of_gt (Nat.lt_succ_of_lt (World.block_lt_of_cell? w7 _ b0))))
    all_goals
      go_wp2_with fail
      go_meet
      refine ⟨_, _, h0, f0, t0, rfl, rfl, ⟨?_⟩⟩
      have hs6 := HB6.out.size
      have hs7 := HB7.out.size
      refine OrdAt.of HBX.out HX.out.2.1 HX.out.2.2 ?_ ?_ ?_ ?_ ?_
      · repeat' (first | (with_reducible exact HB7.out) | (with_reducible refine below_new ?_ _) | (with_reducible refine Below.setCell ?_ ?_ _) | (simp; done) | (simp; omega) | omega)
      · first | (go_simp; done) | (simp (maxDischargeDepth := 6) [go_sem, *]; done)
      · first | (go_simp; done) | (simp (maxDischargeDepth := 6) [go_sem, *]; done)
      · first | (go_simp; done) | (simp (maxDischargeDepth := 6) [go_sem, *]; done)
      · constructor <;> first | omega | (simp; omega)
  case rest =>
    obtain ⟨be, bs, h, f, d, rfl, rfl, HO⟩ := hcut
    clear tp c0 c1 c2 c3 n1 n2 n3 n4 HG HK HBX HX
    have HN := Aside0.mk (show be ≠ b ∧ bs ≠ b ∧ w.heap.size ≠ b ∧ wc.heap.size ≠ b by
      have h1 := HO.out.ge
      have h2 := HBW.out
      have h3 := HO.out.bel.size
      refine ⟨?_, ?_, ?_, ?_⟩ <;> omega)
    go_upto_region 3 with fail
    have hA := below_alloc (Below.refl wc.heap.size wc) (.cells #[.func (.func 71) #[] #[.pointer (some ⟨bs, 0, none⟩), .pointer (some ⟨be, 0, none⟩), .pointer (some ⟨w.heap.size, 0, none⟩)]] 104)
    have HC := Aside0.mk (HSORT.out be bs wc.heap.size h f d _ (HO.out.gain.below hA) (by simp [World.cell?_alloc_at]) HN.out.2.2.2 HN.out.2.1 HN.out.1 HN.out.2.2.1 (pw_own_below HO.out.own hA))
    have HL := Aside0.mk (Ken.of_below (below_go HO.out.bel hA) (fun k => k = b))
    clear hA HSORT HO HN
    generalize wc.alloc (.cells #[.func (.func 71) #[] #[.pointer (some ⟨bs, 0, none⟩), .pointer (some ⟨be, 0, none⟩), .pointer (some ⟨w.heap.size, 0, none⟩)]] 104) = w2 at *
    go_wp2_with fail
    refine HC.out.mono ?_
    rintro e w3 ⟨rfl, cur, hP⟩
    have HP := Aside0.mk hP
    clear hP
    go_wp2_with fail
    go_end0
    exact ⟨rfl, cur, HP.out.pm, HP.out.own, HL.out.trans (ken_keep HP.out.keep HP.out.bel) (fun j hj => .inl hj)⟩
end Go.Proofs.YtafmapadkpjliaaGreatDoor.K

/- quiet.captures. -/
namespace Go.Proofs.YtafmapadkpjliaaGreatDoor.K
open Go.RowKit Go.Lib Go.Proofs.YtafmapadkpjliaaGreatDoorW.PrintWords Go.Proofs.YtafmapadkpjliaaGreatDoorW.PrintLast Go.Proofs.YtafmapadkpjliaaGreatDoorW.PrintMore Go.Proofs.YtafmapadkpjliaaGreatDoor.Sp
set_option linter.unusedVariables false
set_option linter.unusedSimpArgs false
set_option maxRecDepth 100000 in
set_option maxHeartbeats 4000000 in
theorem stable_M (g : Nat) (lb : Array Value) (cf : Mv → Mv → Int) (eg : ∀ args w, (callFunc g args).run Tryz.prog w = .ok (.enter g args) w) (base b cap : Nat) (xs : List Mv) (B0 : Nat) (w : World)
    (hc : CmpM g lb cf xs b w) (hP : PermAt base b cap xs B0 w w xs) (hlen : xs.length ≤ 20) :
    Calls Tryz.prog 109 #[.slice (some ⟨b, 0, none⟩) xs.length cap, .int .i64 (xs.length : Int), .func (.func g) #[] lb] w fun e w' => e = .returned (.tuple #[]) ∧ ∃ cur, PermAt base b cap xs B0 w w' cur := by
  have HP := Aside0.mk hP
  have HI1 := Aside0.mk (fun (W : World) (cur : List Mv) (h : PermAt base b cap xs B0 w W cur) (hn : 20 ≤ xs.length) => (ins_M g lb cf eg base b cap 0 20 xs B0 w W cur hc h hn (by omega) (by decide) : Calls Tryz.prog 144 #[.slice (some ⟨b, 0, none⟩) xs.length cap, .int .i64 0, .int .i64 20, .func (.func g) #[] lb] W fun e w' => e = .returned (.tuple #[]) ∧ ∃ cur, PermAt base b cap xs B0 w w' cur))
  have HI2 := Aside0.mk (fun (W : World) (cur : List Mv) (h : PermAt base b cap xs B0 w W cur) => (ins_M g lb cf eg base b cap 0 xs.length xs B0 w W cur hc h (Nat.le_refl _) (by omega) (by decide) : Calls Tryz.prog 144 #[.slice (some ⟨b, 0, none⟩) xs.length cap, .int .i64 0, .int .i64 (xs.length : Int), .func (.func g) #[] lb] W fun e w' => e = .returned (.tuple #[]) ∧ ∃ cur, PermAt base b cap xs B0 w w' cur))
  have HI3 := Aside0.mk (fun (W : World) (cur : List Mv) (h : PermAt base b cap xs B0 w W cur) => (ins_M g lb cf eg base b cap 20 xs.length xs B0 w W cur hc h (Nat.le_refl _) (by omega) (by decide) : Calls Tryz.prog 144 #[.slice (some ⟨b, 0, none⟩) xs.length cap, .int .i64 20, .int .i64 (xs.length : Int), .func (.func g) #[] lb] W fun e w' => e = .returned (.tuple #[]) ∧ ∃ cur, PermAt base b cap xs B0 w w' cur))
  have hlz : (xs.length : Int) ≤ 20 := by omega
  have hl0 : (0 : Int) ≤ (xs.length : Int) := by omega
  have hlt : ¬ (20 : Int) < (xs.length : Int) := by omega
  have hl4 : ¬ (40 : Int) ≤ (xs.length : Int) := by omega
  clear hc hP eg
  go_enter Tryz.func109, Tryz.ntmps109
  go_wp2_with fail
  go_loopg [7, 8] 1 (fun gg s7 s8 wr => ∃ cur : List Mv, Aside0 (PermAt base b cap xs B0 w wr cur) ∧ ((s7 = .int .i64 0 ∧ s8 = .int .i64 20 ∧ gg = 1) ∨ (s7 = .int .i64 20 ∧ s8 = .int .i64 40)))
  case atStart => exact ⟨xs, HP, .inl ⟨rfl, rfl, rfl⟩⟩
  case round =>
    clear HP
    obtain ⟨cur, HP, ⟨rfl, rfl, hgg⟩ | ⟨rfl, rfl⟩⟩ := hrel
    · by_cases h20 : (20 : Int) ≤ (xs.length : Int)
      · go_wp2_with fail
        refine (HI1.out _ cur HP.out (by omega)).mono ?_
        rintro e w1 ⟨rfl, cur1, h1⟩
        have HP1 := Aside0.mk h1
        clear h1 HP
        go_wp2_with fail
        go_roundg 0
        case measure => omega
        case rel => exact ⟨cur1, HP1, .inr ⟨rfl, rfl⟩⟩
      · go_wp2_with fail
        refine (HI2.out _ cur HP.out).mono ?_
        rintro e w1 ⟨rfl, cur1, h1⟩
        have HP1 := Aside0.mk h1
        clear h1 HP
        go_wp2_with fail
        refine wp_loop_rounds 1 ?_
        rw [rounds_succ]
        go_wp2_with fail
        go_end0
        exact ⟨rfl, cur1, HP1.out⟩
    · go_wp2_with fail
      refine (HI3.out _ cur HP.out).mono ?_
      rintro e w1 ⟨rfl, cur1, h1⟩
      have HP1 := Aside0.mk h1
      clear h1 HP
      go_wp2_with fail
      refine wp_loop_rounds 1 ?_
      rw [rounds_succ]
      go_wp2_with fail
      go_end0
      exact ⟨rfl, cur1, HP1.out⟩
set_option maxRecDepth 100000 in
set_option maxHeartbeats 4000000 in
theorem sortS_M (g : Nat) (lb : Array Value) (cf : Mv → Mv → Int) (eg : ∀ args w, (callFunc g args).run Tryz.prog w = .ok (.enter g args) w) (base b cap : Nat) (xs : List Mv) (B0 : Nat) (w : World)
    (hc : CmpM g lb cf xs b w) (hP : PermAt base b cap xs B0 w w xs) (hlen : xs.length ≤ 20) :
    Calls Tryz.prog 74 #[.slice (some ⟨b, 0, none⟩) xs.length cap, .func (.func g) #[] lb] w fun e w' => e = .returned (.tuple #[]) ∧ ∃ cur, PermAt base b cap xs B0 w w' cur := by
  have HS := Aside0.mk (stable_M g lb cf eg base b cap xs B0 w hc hP hlen)
  clear hc hP hlen eg
  go_enter Tryz.func74, Tryz.ntmps74
  go_wp2_with fail
  refine HS.out.mono ?_
  rintro e w' ⟨rfl, cur, h⟩
  have HR := Aside0.mk h
  clear h
  go_wp2_with fail
  go_end0
  exact ⟨rfl, cur, HR.out⟩
/-- The captures of some moves, in some order. -/
def CapsIs (base b cap : Nat) (s : ByteArray) (l : List Mv) (W : World) (e : Ending) (w' : World) : Prop :=
  ∃ ys : List Mv, e = .returned (.slice (some ⟨b, 0, none⟩) ys.length cap) ∧ ys.Perm (takeL s l) ∧ w'.ownsRow base 36 2 (.slice (some ⟨b, 0, none⟩) ys.length cap) ys.length (flatM ys) ∧ Below base W w'
set_option maxRecDepth 100000 in
set_option maxHeartbeats 4000000 in
theorem caps_c (p : Pos) (hbd : isBoard p.cells = true) (base b cap : Nat) (l : List Mv) (W : World) (ho : W.ownsRow base 36 2 (.slice (some ⟨b, 0, none⟩) l.length cap) l.length (flatM l)) (hb0 : base ≤ b) (hbW : b < W.heap.size)
    (hl : ∀ m ∈ l, m.2 < 90) (hcap : l.length ≤ cap) (h20 : (takeL p.cells l).length ≤ 20) (hlen : l.length ≤ 1000000) : Calls Tryz.prog 103 #[posV p, .slice (some ⟨b, 0, none⟩) l.length cap] W (CapsIs base b cap p.cells l W) := by
  have HB0 := Aside0.mk (BoxP.new W p)
  have HL0 := Aside0.mk (below_alloc (Below.refl W.heap.size W) (.cells #[.string p.cells, .int .i64 p.side, .int .i64 p.clock, .int .i64 p.full] 23))
  have HO0 := Aside0.mk (pw_own_below ho HL0.out)
  have HNE := Aside0.mk (show W.heap.size ≠ b by omega)
  have HZ := Aside0.mk (show base ≤ (W.alloc (.cells #[.string p.cells, .int .i64 p.side, .int .i64 p.clock, .int .i64 p.full] 23)).heap.size by simp; omega)
  have HZ0 := Aside0.mk (show base ≤ W.heap.size by omega)
  have HD := Aside0.mk (fun (W1 : World) (hx : BoxP W1 W.heap.size p) (hz : base ≤ W1.heap.size) (ho : W1.ownsRow base 36 2 (.slice (some ⟨b, 0, none⟩) l.length cap) l.length (flatM l)) =>
    delM_calls 140 #[.pointer (some ⟨W.heap.size, 0, none⟩)] (fun m => cel p.cells m.2 == 46) (enters_of Tryz.func140 (by kernel_rfl) rfl) base b cap l base W1 ho (fun W2 m hm hk => qcap1_c p W.heap.size m hbd (hl m hm) W2 (keep_box hk HNE.out hx)) hlen hcap hb0 hz)
  have HS := Aside0.mk (fun (W1 : World) (hx : BoxP W1 W.heap.size p) (hz : base ≤ W1.heap.size) (ho : W1.ownsRow base 36 2 (.slice (some ⟨b, 0, none⟩) (takeL p.cells l).length cap) (takeL p.cells l).length (flatM (takeL p.cells l))) =>
    sortS_M 141 #[.pointer (some ⟨W.heap.size, 0, none⟩)] (capI p) (enters_of Tryz.func141 (by kernel_rfl) rfl) base b cap (takeL p.cells l) base W1 (fun W2 x y hx2 hy2 hk => qcap2_c p W.heap.size x y hbd (hl x (List.mem_filter.1 hx2).1) (hl y (List.mem_filter.1 hy2).1) W2 (keep_box hk HNE.out hx)) ⟨List.Perm.refl _, ho, KeepBut.refl _ _ _, Below.refl _ _, hb0, hz⟩ h20)
  have hfl : (l.filter fun x => !(cel p.cells x.2 == 46)) = takeL p.cells l := rfl
  rw [hfl] at HD
  have hu := Tryz.underlying23
  have HEND := Aside0.mk (fun (w3 : World) (ys : List Mv) (h : ys.Perm (takeL p.cells l)) (ho : w3.ownsRow base 36 2 (.slice (some ⟨b, 0, none⟩) ys.length cap) ys.length (flatM ys)) (hb : Below base W w3) => show CapsIs base b cap p.cells l W (.returned (.slice (some ⟨b, 0, none⟩) (takeL p.cells l).length cap)) w3 from ⟨ys, by rw [h.length_eq], h, ho, hb⟩)
  clear ho hb0 hbW hl hcap h20 hlen hfl hbd
  generalize takeL p.cells l = tl at *
  go_enter Tryz.func103, Tryz.ntmps103
  go_upto_region 1 with fail
  generalize W.alloc (.cells #[.string p.cells, .int .i64 p.side, .int .i64 p.clock, .int .i64 p.full] 23) = W1 at *
  go_wp2_with fail
  refine (HD.out _ HB0.out HZ.out HO0.out).mono ?_
  rintro e w2 ⟨rfl, ho, hk, hb⟩
  have H2 := Aside0.mk (And.intro (And.intro (keep_box hk HNE.out HB0.out) (Nat.le_trans HZ.out hb.size)) (And.intro ho ((HL0.out.mono HZ0.out).trans hb)))
  clear ho hk hb
  go_wp2_with fail
  refine (HS.out _ H2.out.1.1 H2.out.1.2 H2.out.2.1).mono ?_
  rintro e w3 ⟨rfl, cur, h⟩
  have H3 := Aside0.mk h
  clear h
  go_wp2_with fail
  go_ret
  exact HEND.out _ cur H3.out.pm H3.out.ownc (H2.out.2.2.trans H3.out.bel)
end Go.Proofs.YtafmapadkpjliaaGreatDoor.K

/- Walks of value: Of, Moved. -/
namespace Go.Proofs.YtafmapadkpjliaaGreatDoor.K
open Go.RowKit Go.Lib Go.Proofs.YtafmapadkpjliaaGreatDoorW.PrintWords Go.Proofs.YtafmapadkpjliaaGreatDoor.Sp
set_option linter.unusedVariables false
set_option linter.unusedSimpArgs false
attribute [local go_sem] cel_get   -- for this text's walks alone
/-- A side's own, as far as one has looked. -/
def partV (s : ByteArray) (a : Int) (i : Nat) : Int := sumV (fun n => if sideN (cel s n) = a then pieceV (cel s n) n else 0) i
theorem partV_le (s : ByteArray) (a : Int) {i : Nat} (hi : i ≤ 90) : -27000 ≤ partV s a i ∧ partV s a i ≤ 27000 := by
  have := sumV_le (f := fun n => if sideN (cel s n) = a then pieceV (cel s n) n else 0) (b := 300) (n := i) (fun j hj => by
    have := pieceV_le (cel s j) (n := j) (by omega)
    show -300 ≤ (if sideN (cel s j) = a then pieceV (cel s j) j else 0) ∧ _
    split <;> omega)
  unfold partV
  omega
theorem sumV_sub (f g : Nat → Int) (n : Nat) : sumV f n - sumV g n = sumV (fun i => f i - g i) n := by
  induction n with
  | zero => rfl
  | succ n ih => show sumV f n + f n - (sumV g n + g n) = sumV (fun i => f i - g i) n + (f n - g n); omega
theorem valS_parts {s : ByteArray} {a : Int} (ha : a = 0 ∨ a = 1) : valS s a = partV s a 90 - partV s (1 - a) 90 := by
  unfold valS partV
  rw [sumV_sub]
  refine sumV_congr (fun i _ => ?_)
  unfold ownV
  rcases side_opts (cel s i) with h | h | h
  · rw [if_neg (by omega), if_neg (by omega), if_neg (by omega), pieceV_none (by omega)]; rfl
  · rcases ha with rfl | rfl
    · rw [if_pos h, if_pos h, if_neg (by omega)]; omega
    · rw [if_neg (by omega), if_neg (by omega), if_pos (by omega)]; omega
  · rcases ha with rfl | rfl
    · rw [if_neg (by omega), if_neg (by omega), if_pos (by omega)]; omega
    · rw [if_pos h, if_pos h, if_neg (by omega)]; omega
theorem partV_next (s : ByteArray) (a : Int) (i : Nat) : partV s a (i + 1) = partV s a i + (if sideN (cel s i) = a then pieceV (cel s i) i else 0) := rfl
/-- The two sums, while they are gathered. -/
structure OvAt (w0 W : World) (B b : Nat) (p : Pos) (x y : Int) : Prop where
  box : BoxP W B p
  a0 : W.cell? ⟨b, 0, none⟩ = some (.int .i64 x)
  a1 : W.cell? ⟨b, 1, none⟩ = some (.int .i64 y)
  f0 : W.frozen? ⟨b, 0, none⟩ = false
  f1 : W.frozen? ⟨b, 1, none⟩ = false
  bel : Below w0.heap.size w0 W
  ge : w0.heap.size ≤ b
  ne : B ≠ b
section
variable {w0 W W' : World} {B b : Nat} {p : Pos} {x y : Int}
theorem OvAt.below (h : OvAt w0 W B b p x y) (hb : Below W.heap.size W W') : OvAt w0 W' B b p x y :=
  ⟨h.box.below hb, pw_cell_below hb h.a0, pw_cell_below hb h.a1, (hb.frozen (p := ⟨b, 0, none⟩) (World.block_lt_of_cell? W ⟨b, 0, none⟩ h.a0)).trans h.f0, (hb.frozen (p := ⟨b, 1, none⟩) (World.block_lt_of_cell? W ⟨b, 1, none⟩ h.a1)).trans h.f1, below_go h.bel hb, h.ge, h.ne⟩
theorem OvAt.drew (h : OvAt w0 W B b p x y) : OvAt w0 W.drew B b p x y := h.below (pw_below_drewN (Below.refl _ _) 1)
theorem OvAt.put0 (h : OvAt w0 W B b p x y) (z : Int) : OvAt w0 (W.setCell ⟨b, 0, none⟩ (.int .i64 z)) B b p z y := by
  refine ⟨⟨?_, ?_, ?_, ?_⟩, ?_, ?_, ?_, ?_, h.bel.setCell (p := ⟨b, 0, none⟩) h.ge _, h.ge, h.ne⟩
  · exact (World.cell?_setCell_far _ _ _ _ (show b ≠ B from Ne.symm h.ne)).trans h.box.c0
  · exact (World.cell?_setCell_far _ _ _ _ (show b ≠ B from Ne.symm h.ne)).trans h.box.c1
  · exact (World.cell?_setCell_far _ _ _ _ (show b ≠ B from Ne.symm h.ne)).trans h.box.c2
  · exact (World.cell?_setCell_far _ _ _ _ (show b ≠ B from Ne.symm h.ne)).trans h.box.c3
  · exact World.cell?_setCell_same' _ _ _ (by rw [h.a0]; rfl)
  · exact (World.cell?_setCell_other _ _ _ _ (by simp)).trans h.a1
  · rw [World.frozen?_setCell]; exact h.f0
  · rw [World.frozen?_setCell]; exact h.f1
theorem OvAt.put1 (h : OvAt w0 W B b p x y) (z : Int) : OvAt w0 (W.setCell ⟨b, 1, none⟩ (.int .i64 z)) B b p x z := by
  refine ⟨⟨?_, ?_, ?_, ?_⟩, ?_, ?_, ?_, ?_, h.bel.setCell (p := ⟨b, 1, none⟩) h.ge _, h.ge, h.ne⟩
  · exact (World.cell?_setCell_far _ _ _ _ (show b ≠ B from Ne.symm h.ne)).trans h.box.c0
  · exact (World.cell?_setCell_far _ _ _ _ (show b ≠ B from Ne.symm h.ne)).trans h.box.c1
  · exact (World.cell?_setCell_far _ _ _ _ (show b ≠ B from Ne.symm h.ne)).trans h.box.c2
  · exact (World.cell?_setCell_far _ _ _ _ (show b ≠ B from Ne.symm h.ne)).trans h.box.c3
  · exact (World.cell?_setCell_other _ _ _ _ (by simp)).trans h.a0
  · exact World.cell?_setCell_same' _ _ _ (by rw [h.a1]; rfl)
  · rw [World.frozen?_setCell]; exact h.f0
  · rw [World.frozen?_setCell]; exact h.f1
end
set_option maxRecDepth 100000 in
set_option maxHeartbeats 4000000 in
theorem vof_c (p : Pos) (hbd : isBoard p.cells = true) (ha : p.side = 0 ∨ p.side = 1) (w : World) : Calls Tryz.prog 69 #[posV p] w fun e w' => e = .returned (.int .i64 (valS p.cells p.side)) ∧ Below w.heap.size w w' := by
  have HI := fun W => is_c p.cells W
  simp only [hbd] at HI
  have HI := Aside0.mk HI
  have HSZ := Aside0.mk (board_size hbd)
  have HS := Aside0.mk (fun (i : Nat) W => side_c (cel p.cells i) (cel_lt _ _) W)
  have HP := Aside0.mk (fun (i : Nat) (hi : i < 90) W => piece_c (cel p.cells i) i (cel_lt _ _) hi W)
  have HV := Aside0.mk (valS_parts (s := p.cells) ha)
  have HL := Aside0.mk (fun (a : Int) (i : Nat) (hi : i ≤ 90) => partV_le p.cells a hi)
  have HLP := Aside0.mk (fun (i : Nat) (hi : i < 90) => pieceV_le (cel p.cells i) hi)
  have HN := Aside0.mk (fun (a : Int) (i : Nat) => partV_next p.cells a i)
  have hu := Tryz.underlying23
  have HB0 := Aside0.mk (BoxP.new w p)
  have HL0 := Aside0.mk (below_alloc (Below.refl w.heap.size w) (.cells #[.string p.cells, .int .i64 p.side, .int .i64 p.clock, .int .i64 p.full] 23))
  have HLT := Aside0.mk (show w.heap.size < (w.alloc (.cells #[.string p.cells, .int .i64 p.side, .int .i64 p.clock, .int .i64 p.full] 23)).heap.size by simp)
  clear hbd
  go_enter Tryz.func69, Tryz.ntmps69
  go_upto_region 1 with fail
  generalize w.alloc (.cells #[.string p.cells, .int .i64 p.side, .int .i64 p.clock, .int .i64 p.full] 23) = W1 at *
  obtain ⟨c0, c1, c2, c3⟩ := HB0.out
  go_wp2_with fail
  refine (HI.out _).mono ?_
  rintro e w1 ⟨rfl, hb⟩
  have HB1 := Aside0.mk (And.intro (HB0.out.below hb) (below_go HL0.out hb))
  have HG := Aside0.mk (show w.heap.size < w1.heap.size from Nat.lt_of_lt_of_le HLT.out hb.size)
  clear hb c0 c1 c2 c3
  go_upto_region 4 with fail
  have HO := Aside0.mk (show OvAt w (w1.alloc (.cells #[.int .i64 0, .int .i64 0] 127)) w.heap.size w1.heap.size p (partV p.cells 0 0) (partV p.cells 1 0) from
    ⟨HB1.out.1.below (below_alloc (Below.refl _ _) _), by simp [World.cell?_alloc_at]; rfl, by simp [World.cell?_alloc_at]; rfl, by simp [World.frozen?_alloc_at], by simp [World.frozen?_alloc_at], below_new HB1.out.2 _, Nat.le_of_lt HG.out, Nat.ne_of_lt HG.out⟩)
  generalize w1.alloc (.cells #[.int .i64 0, .int .i64 0] 127) = w2 at *
  clear HB1
  generalize w1.heap.size = b at *
  go_wp2_with fail
  go_loopg [11] 90 (fun gg s11 wr => ∃ i : Nat, s11 = .int .i64 (i : Int) ∧ i + gg = 90 ∧ Aside0 (OvAt w wr w.heap.size b p (partV p.cells 0 i) (partV p.cells 1 i)))
  case atStart => exact ⟨0, rfl, by omega, HO⟩
  case round =>
    clear HO
    obtain ⟨i, rfl, hi, HO⟩ := hrel
    have hbx := HL.out 0 i (by omega)
    have hby := HL.out 1 i (by omega)
    obtain ⟨x, hx⟩ : ∃ x, partV p.cells 0 i = x := ⟨_, rfl⟩
    obtain ⟨y, hy⟩ : ∃ y, partV p.cells 1 i = y := ⟨_, rfl⟩
    rw [hx] at HO hbx
    rw [hy] at HO hby
    obtain ⟨c0, c1, c2, c3⟩ := HO.out.box
    have a0 := HO.out.a0
    have a1 := HO.out.a1
    have f0 := HO.out.f0
    have f1 := HO.out.f1
    cases gk with
    | zero =>
      have hn : ¬ (i : Int) < 90 := by omega
      have hE : ((p.side != 0) = false ∧ valS p.cells p.side = x - y) ∨ ((p.side != 0) = true ∧ valS p.cells p.side = -(x - y)) := by
        have hi9 : i = 90 := by omega
        have := HV.out
        rw [hi9] at hx hy
        rcases ha with h | h
        · refine .inl ⟨by rw [h]; rfl, ?_⟩
          rw [h] at this ⊢
          rw [show ((1 : Int) - 0) = 1 from rfl] at this
          omega
        · refine .inr ⟨by rw [h]; rfl, ?_⟩
          rw [h] at this ⊢
          rw [show ((1 : Int) - 1) = 0 from rfl] at this
          omega
      clear hx hy hi ha
      rcases hE with ⟨hne, hv⟩ | ⟨hne, hv⟩
      all_goals
        have HR := Aside0.mk hv
        clear hv
        go_wp2_with fail
        go_ret
        exact ⟨ret_int (by have := HR.out; omega), HO.out.bel⟩
    | succ g =>
      have hn : (i : Int) < 90 := by omega
      have hi9 : i < 90 := by omega
      have hsz : i < p.cells.size := by rw [HSZ.out]; exact hi9
      have hsz2 : (i : Int) < (p.cells.size : Int) := by omega
      have HIN := Aside0.mk (show i + 1 + g = 90 by omega)
      have HSi := HS.out i
      have HPi := Aside0.mk (HP.out i hi9)
      have hv1 := HLP.out i hi9
      have hqx := HN.out 0 i
      have hqy := HN.out 1 i
      rw [hx] at hqx
      rw [hy] at hqy
      generalize pieceV (cel p.cells i) i = v at *
      clear hi9 hi ha
      rcases side_opts (cel p.cells i) with hs | hs | hs
      · rw [hs] at hqx hqy
        simp only [hs] at HSi
        rw [if_neg (by omega), Int.add_zero] at hqx hqy
        have HSi := Aside0.mk HSi
        have HQ := Aside0.mk (And.intro hqx hqy)
        clear hqx hqy hx hy hv1 hs
        go_wp2_with (go_at_call 105; refine (HSi.out _).mono ?_; rintro e w3 ⟨rfl, rfl⟩)
        go_roundg g
        case measure => omega
        case rel => exact ⟨i + 1, by go_num, HIN.out, by rw [HQ.out.1, HQ.out.2]; exact HO⟩
      · rw [hs] at hqx hqy
        simp only [hs] at HSi
        rw [if_pos rfl] at hqx
        rw [if_neg (by omega), Int.add_zero] at hqy
        have HSi := Aside0.mk HSi
        have e1 : IntKind.i64.wrap (x + v) = x + v := by rw [IntKind.wrap_i64]; omega
        have HQ := Aside0.mk (And.intro hqx hqy)
        clear hqx hqy hx hy hv1 hs
        go_wp2_with (go_at_call 105; refine (HSi.out _).mono ?_; rintro e w3 ⟨rfl, rfl⟩)
        go_region_with (go_at_call 106; refine (HPi.out _).mono ?_; rintro e w3 ⟨rfl, hb⟩; have H3 := Aside0.mk (HO.out.drew.below hb); have a0' := H3.out.a0; have c0' := H3.out.box.c0; have f0' := H3.out.f0; clear hb)
        all_goals
          go_wp2_with fail
          go_roundg g
          case measure => omega
          case rel => exact ⟨i + 1, by go_num, HIN.out, by rw [HQ.out.1, HQ.out.2]; exact ⟨H3.out.put0 _⟩⟩
      · rw [hs] at hqx hqy
        simp only [hs] at HSi
        rw [if_neg (by omega), Int.add_zero] at hqx
        rw [if_pos rfl] at hqy
        have HSi := Aside0.mk HSi
        have e1 : IntKind.i64.wrap (y + v) = y + v := by rw [IntKind.wrap_i64]; omega
        have HQ := Aside0.mk (And.intro hqx hqy)
        clear hqx hqy hx hy hv1 hs
        go_wp2_with (go_at_call 105; refine (HSi.out _).mono ?_; rintro e w3 ⟨rfl, rfl⟩)
        go_region_with (go_at_call 106; refine (HPi.out _).mono ?_; rintro e w3 ⟨rfl, hb⟩; have H3 := Aside0.mk (HO.out.drew.below hb); have a1' := H3.out.a1; have c0' := H3.out.box.c0; have f1' := H3.out.f1; clear hb)
        all_goals
          go_wp2_with fail
          go_roundg g
          case measure => omega
          case rel => exact ⟨i + 1, by go_num, HIN.out, by rw [HQ.out.1, HQ.out.2]; exact ⟨H3.out.put1 _⟩⟩
set_option maxRecDepth 100000 in
set_option maxHeartbeats 4000000 in
theorem vmoved_c (v : Int) (hv : -30000 ≤ v ∧ v ≤ 30000) (c k : Nat) (hc : c < 256) (hk : k < 256) (m : Mv) (h1 : m.1 < 90) (h2 : m.2 < 90) (w : World) : Calls Tryz.prog 104 #[.int .i64 v, .int .u8 (c : Int), mvV m, .int .u8 (k : Int)] w fun e w' => e = .returned (.int .i64 (pieceV c m.1 - pieceV c m.2 - pieceV k m.2 - v)) ∧ Below w.heap.size w w' := by
  have H1 := Aside0.mk (fun W => piece_c c m.1 hc h1 W)
  have H2 := Aside0.mk (fun W => piece_c c m.2 hc h2 W)
  have H3 := Aside0.mk (fun W => piece_c k m.2 hk h2 W)
  have l1 := pieceV_le c h1
  have l2 := pieceV_le c h2
  have l3 := pieceV_le k h2
  have hu2 := Tryz.underlying36
  have HL0 := Aside0.mk (below_alloc (Below.refl w.heap.size w) (.cells #[.int .i64 (m.1 : Int), .int .i64 (m.2 : Int)] 36))
  have d0 : (w.alloc (.cells #[.int .i64 (m.1 : Int), .int .i64 (m.2 : Int)] 36)).cell? ⟨w.heap.size, 0, none⟩ = some (.int .i64 (m.1 : Int)) := by simp [World.cell?_alloc_at]
  have d1 : (w.alloc (.cells #[.int .i64 (m.1 : Int), .int .i64 (m.2 : Int)] 36)).cell? ⟨w.heap.size, 1, none⟩ = some (.int .i64 (m.2 : Int)) := by simp [World.cell?_alloc_at]
  have D0 := Aside0.mk d0
  have D1 := Aside0.mk d1
  clear d0 d1
  generalize pieceV c m.1 = x at *
  generalize pieceV c m.2 = y at *
  generalize pieceV k m.2 = z at *
  have e1 : IntKind.i64.wrap (x - y) = x - y := by rw [IntKind.wrap_i64]; omega
  have e2 : IntKind.i64.wrap (x - y - z) = x - y - z := by rw [IntKind.wrap_i64]; omega
  have e3 : IntKind.i64.wrap (x - y - z - v) = x - y - z - v := by rw [IntKind.wrap_i64]; omega
  clear hc hk h1 h2 l1 l2 l3 hv
  go_enter Tryz.func104, Tryz.ntmps104
  go_upto_region 1 with fail
  generalize w.alloc (.cells #[.int .i64 (m.1 : Int), .int .i64 (m.2 : Int)] 36) = W1 at *
  have d0 := fun q : BelowOf W1 => q.cell D0.out
  have d1 := fun q : BelowOf W1 => q.cell D1.out
  refine wp_region_below (by kernel_rfl) ?_
  repeat (quiet_step ((go_at_call 106; first | (with_reducible exact BelowOf.calls (H1.out _)) | (with_reducible exact BelowOf.calls (H2.out _)) | (with_reducible exact BelowOf.calls (H3.out _)))))
  refine wpQuiet_nil ?_
  rintro w2 ⟨⟨_, hb⟩, rfl⟩
  have HR := Aside0.mk (below_go HL0.out hb)
  clear hb d0 d1
  go_wp2_with fail
  go_ret
  exact ⟨rfl, HR.out⟩
end Go.Proofs.YtafmapadkpjliaaGreatDoor.K

/- quiet.within: what lies between two bounds. -/
namespace Go.Proofs.YtafmapadkpjliaaGreatDoor.K
open Go.RowKit Go.Lib Go.Proofs.YtafmapadkpjliaaGreatDoorW.PrintWords Go.Proofs.YtafmapadkpjliaaGreatDoorW.PrintLast Go.Proofs.YtafmapadkpjliaaGreatDoorW.PrintMore Go.Proofs.YtafmapadkpjliaaGreatDoor.Sp
set_option linter.unusedVariables false
set_option linter.unusedSimpArgs false
def WithinIs (p : Pos) (low high : Int) (W : World) (e : Ending) (w' : World) : Prop := e = .returned (.int .i64 (clipI (quietP p) low high)) ∧ Below W.heap.size W w'
theorem bestF_take (f : Mv → Int) (b : Int) (l : List Mv) (i : Nat) (hi : i < l.length) : bestF f b (l.take (i + 1)) = max (bestF f b (l.take i)) (f l[i]) := by
  rw [List.take_succ_eq_append_getElem hi, bestF_snoc]
theorem bestF_part (f : Mv → Int) (b : Int) (l : List Mv) (i : Nat) : bestF f b (l.take i) ≤ bestF f b l := by
  conv => rhs; rw [← List.take_append_drop i l]
  unfold bestF
  rw [List.foldl_append]
  exact bestF_le f (l.drop i) _
/-- A round of within's loop. -/
structure WiAt (W0 W : World) (B base b cap : Nat) (p : Pos) (ys : List Mv) : Prop where
  box : BoxP W B p
  own : W.ownsRow base 36 2 (.slice (some ⟨b, 0, none⟩) ys.length cap) ys.length (flatM ys)
  bel : Below W0.heap.size W0 W
theorem WiAt.below {W0 W W' : World} {B base b cap : Nat} {p : Pos} {ys : List Mv} (h : WiAt W0 W B base b cap p ys) (hb : Below W.heap.size W W') : WiAt W0 W' B base b cap p ys := ⟨h.box.below hb, pw_own_below h.own hb, below_go h.bel hb⟩
set_option maxRecDepth 100000 in
set_option maxHeartbeats 8000000 in
theorem within_next (p : Pos) (hw : wellS p = 0) (h9 : nP p.cells ≤ 9)
    (IH : ∀ q : Pos, wellS q = 0 → nP q.cells < nP p.cells → ∀ (low high : Int) (W : World), -1073741824 ≤ low → low < high → high ≤ 1073741824 → TabW W → Calls Tryz.prog 68 #[posV q, .int .i64 (valS q.cells q.side), .int .i64 low, .int .i64 high] W (WithinIs q low high W))
    (low high : Int) (W : World) (hlo : -1073741824 ≤ low) (hlh : low < high) (hhi : high ≤ 1073741824) (hT : TabW W) : Calls Tryz.prog 68 #[posV p, .int .i64 (valS p.cells p.side), .int .i64 low, .int .i64 high] W (WithinIs p low high W) := by
  have hck := well_check hw
  obtain ⟨hbd, hsd, _⟩ := argOk_yes (checkP_parts hck).1
  have HT := Aside0.mk (fun (W' : World) (hb : Below W.heap.size W W') => hT.below hb)
  have HM := Aside0.mk (fun (W : World) (hT : TabW W) => lmoves_c p W hT)
  have hu := Tryz.underlying23
  have hu2 := Tryz.underlying36
  have HB0 := Aside0.mk (BoxP.new W p)
  have HL0 := Aside0.mk (below_alloc (Below.refl W.heap.size W) (.cells #[.string p.cells, .int .i64 p.side, .int .i64 p.clock, .int .i64 p.full] 23))
  have hv := valS_le p.cells p.side
  have HLE := Aside0.mk (legal_eq hw)
  by_cases hno : legalL p = []
  · have HR := Aside0.mk (show clipI (quietP p) low high = min (max (-10000) low) high by rw [quietP_no (by rw [← legal_eq hw]; exact hno)]; rfl)
    rw [hno] at HM
    unfold WithinIs
    generalize valS p.cells p.side = v0 at *
    generalize clipI (quietP p) low high = r at *
    clear hw h9 IH hck hbd hsd hno HLE hT
    go_enter Tryz.func68, Tryz.ntmps68
    go_upto_region 1 with fail
    generalize W.alloc (.cells #[.string p.cells, .int .i64 p.side, .int .i64 p.clock, .int .i64 p.full] 23) = W1 at *
    obtain ⟨c0, c1, c2, c3⟩ := HB0.out
    go_wp2_with fail
    refine (HM.out _ (HT.out _ HL0.out)).mono ?_
    rintro e w1 ⟨v, rfl, ho, hb⟩
    obtain ⟨A, cp, hv⟩ := ho.reads.form
    have hv2 : v = .slice A 0 cp := hv
    clear hv
    subst hv2
    have HL1 := Aside0.mk (below_go HL0.out hb)
    clear ho hb c0 c1 c2 c3
    go_wp2_with fail
    go_ret
    exact ⟨ret_int (by rw [HR.out]), HL1.out⟩
  · obtain ⟨f, hq1, hq2⟩ := quietP_eq hw (by rw [← legal_eq hw]; exact hno)
    have HQ := Aside0.mk hq1
    have HF := Aside0.mk (fun (m : Mv) (hm : m ∈ takeL p.cells (legalL p)) => show ∃ q c, makeP p (mviOf m) = (q, c, 0) ∧ wellS q = 0 ∧ OkMv p q m c ∧ nP q.cells < nP p.cells ∧ f m = - quietP q by
      have hl := (List.mem_filter.1 hm).1
      obtain ⟨q, c, h1, h2, h3, h4, h5⟩ := legal_step8 hl
      rw [legal_eq hw] at hm
      obtain ⟨q', e1, e2, e3, e4, _⟩ := take_less hw hm
      exact ⟨q, c, h1, h2, h3, by rw [h4, ← e1]; omega, hq2 m hm q h4 h5 h2⟩)
    have HTK := Aside0.mk (show (takeL p.cells (legalL p)).length ≤ 20 from take_20 hw h9)
    have HLN := Aside0.mk (show (legalL p).length ≤ 8100 by rw [legal_eq hw]; exact legalR_len _ _)
    have HM90 := Aside0.mk (fun (m : Mv) (hm : m ∈ legalL p) => show m.1 < 90 ∧ m.2 < 90 by rw [legal_eq hw] at hm; exact gathM_mem (Nat.le_refl _) (List.mem_filter.1 hm).1)
    rw [← legal_eq hw] at HQ
    have HCP := Aside0.mk (fun (base b cap : Nat) (W : World) (ho : W.ownsRow base 36 2 (.slice (some ⟨b, 0, none⟩) (legalL p).length cap) (legalL p).length (flatM (legalL p))) (hb0 : base ≤ b) (hbW : b < W.heap.size) (hcap : (legalL p).length ≤ cap) => caps_c p hbd base b cap (legalL p) W ho hb0 hbW (fun m hm => (HM90.out m hm).2) hcap HTK.out (Nat.le_trans HLN.out (by decide)))
    have HAT := Aside0.mk (fun (n : Nat) (hn : n < 90) (W : World) => show Calls Tryz.prog 73 #[.string p.cells, .int .i64 (n : Int)] W fun e w' => e = .returned (.int .u8 (cel p.cells n : Int)) ∧ Below W.heap.size W w' by rw [← at_cel hbd hn]; exact at_c p.cells (n : Int) W)
    have HMK := Aside0.mk (fun (m : Mvi) (W : World) (hT : TabW W) => make_c p m W hT)
    have HIH := Aside0.mk IH
    have HVM := Aside0.mk (fun (q : Pos) (m : Mv) (c : Nat) (h : OkMv p q m c) => val_moved h)
    have hln0 : ((legalL p).length : Int) ≠ 0 := by
      cases h : legalL p with
      | nil => exact absurd h hno
      | cons x r => simp; omega
    have hlnb : (((legalL p).length : Int) == 0) = false := by simpa using hln0
    unfold WithinIs
    have HLT := Aside0.mk (show W.heap.size < (W.alloc (.cells #[.string p.cells, .int .i64 p.side, .int .i64 p.clock, .int .i64 p.full] 23)).heap.size by simp)
    generalize valS p.cells p.side = v0 at *
    generalize legalL p = l at *
    clear hw h9 IH hck hbd hsd hno HLE hT hq1 hq2 hln0
    go_enter Tryz.func68, Tryz.ntmps68
    go_upto_region 1 with fail
    generalize W.alloc (.cells #[.string p.cells, .int .i64 p.side, .int .i64 p.clock, .int .i64 p.full] 23) = W1 at *
    obtain ⟨c0, c1, c2, c3⟩ := HB0.out
    go_wp2_with fail
    refine (HM.out _ (HT.out _ HL0.out)).mono ?_
    rintro e w1 ⟨v, rfl, ho, hb⟩
    have HL1 := Aside0.mk (And.intro (HB0.out.below hb) (below_go HL0.out hb))
    have ho' := ho
    clear hb c0 c1 c2 c3
    obtain ⟨hl, ⟨rfl, h0⟩ | ⟨b, cap, cur0, rfl, hb0, hh, hnc, hcm, hcs, hct⟩⟩ := ho
    · exfalso; rw [h0] at hlnb; simp at hlnb
    have HC := Aside0.mk (HCP.out W1.heap.size b cap w1 ho' hb0 (blk_lt hh) hnc)
    clear hl hh hnc hcm hcs hct ho' hb0
    obtain ⟨c0, c1, c2, c3⟩ := HL1.out.1
    go_wp2_with fail
    refine HC.out.mono ?_
    rintro e w2 ⟨ys, rfl, hperm, hown, hb⟩
    have HW : Aside0 (WiAt W w2 W.heap.size W1.heap.size b cap p ys) := ⟨⟨⟨(hb.cell (p := ⟨W.heap.size, 0, none⟩) HLT.out).trans c0, (hb.cell (p := ⟨W.heap.size, 1, none⟩) HLT.out).trans c1, (hb.cell (p := ⟨W.heap.size, 2, none⟩) HLT.out).trans c2, (hb.cell (p := ⟨W.heap.size, 3, none⟩) HLT.out).trans c3⟩, hown, HL1.out.2.trans (hb.mono (Nat.le_of_lt HLT.out))⟩⟩
    have HPQ := Aside0.mk (show quietP p = bestF f v0 ys by rw [HQ.out]; exact (bestF_perm f hperm v0).symm)
    have HFY := Aside0.mk (fun (m : Mv) (hm : m ∈ ys) => HF.out m (hperm.subset hm))
    have HYL := Aside0.mk (show ys.length ≤ 20 by rw [hperm.length_eq]; exact HTK.out)
    have HY90 := Aside0.mk (fun (m : Mv) (hm : m ∈ ys) => HM90.out m (List.mem_filter.1 (hperm.subset hm)).1)
    clear hperm hown hb c0 c1 c2 c3 HL1 HLT HC HCP HM HQ HF HTK HM90 HLN HB0 HL0 hlnb
    generalize W1.heap.size = base at *
    go_wp2_with fail
    go_loopg [2, 32] ys.length (fun gg s2 s32 wr => ∃ (i : Nat) (cur : Int), s2 = .int .i64 cur ∧ s32 = .int .i64 (i : Int) ∧ i + gg = ys.length ∧ -1073741824 ≤ cur ∧ cur ≤ 1073741824 ∧ Aside0 (min cur high = min (max (bestF f v0 (ys.take i)) low) high) ∧ Aside0 (WiAt W wr W.heap.size base b cap p ys))
    case atStart => exact ⟨0, max low v0, rfl, rfl, by omega, by omega, by omega, ⟨show min (max low v0) high = min (max v0 low) high by omega⟩, HW⟩
    case round =>
      clear HW
      obtain ⟨i, cur, rfl, rfl, hi, hcl, hcu, HE, HW⟩ := hrel
      cases gk with
      | zero =>
        have hn : ¬ ((i : Int) < (ys.length : Int)) := by omega
        have HR := Aside0.mk (show min cur high = clipI (quietP p) low high by rw [HPQ.out, HE.out, show ys.take i = ys by rw [show i = ys.length by omega]; exact List.take_length]; rfl)
        clear hi
        go_wp2_with fail
        go_ret
        exact ⟨ret_int HR.out, HW.out.bel⟩
      | succ g =>
        have hn : (i : Int) < (ys.length : Int) := by omega
        have hil : i < ys.length := by omega
        have hib : (i : Int) ≤ 20 := by have := HYL.out; omega
        have HIN := Aside0.mk (show i + 1 + g = ys.length by omega)
        obtain ⟨x0, x1⟩ := OwnM.cellsAt HW.out.own i hil
        have hge : ys.getD i (0, 0) = ys[i] := by simp [List.getD_eq_getElem?_getD, hil]
        rw [hge] at x0 x1
        obtain ⟨q, c, hmk, hwq, hok, hnq, hfq⟩ := HFY.out ys[i] (List.getElem_mem hil)
        obtain ⟨hm1, hm2⟩ := HY90.out ys[i] (List.getElem_mem hil)
        have HNX := Aside0.mk (bestF_take f v0 ys i hil)
        have HPT := Aside0.mk (show bestF f v0 (ys.take i) ≤ quietP p by rw [HPQ.out]; exact bestF_part f v0 ys i)
        have HVM2 := Aside0.mk (HVM.out q ys[i] c hok)
        have hcc : c < 256 := by rw [hok.tk]; first | (split <;> first | omega | exact cel_lt _ _)
        generalize ys[i] = m at *
        obtain ⟨ma, mb⟩ := m
        simp only at x0 x1 hm1 hm2
        have HMV := Aside0.mk (fun (W : World) => vmoved_c v0 (by omega) (cel p.cells ma) c (cel_lt _ _) hcc (ma, mb) hm1 hm2 W)
        have HAT1 := Aside0.mk (HAT.out ma hm1)
        have HFQ := Aside0.mk (And.intro hmk (And.intro hwq (And.intro hnq hfq)))
        clear hge hmk hwq hok hnq hfq hm1 hm2 hcc hi
        go_upto_region 8 with fail
        have HW3 := Aside0.mk (HW.out.below (below_alloc (Below.refl _ _) (.cells #[.int .i64 (ma : Int), .int .i64 (mb : Int)] 36)))
        have d0 : (wr.alloc (.cells #[.int .i64 (ma : Int), .int .i64 (mb : Int)] 36)).cell? ⟨wr.heap.size, 0, none⟩ = some (.int .i64 (ma : Int)) := by simp [World.cell?_alloc_at]
        have d1 : (wr.alloc (.cells #[.int .i64 (ma : Int), .int .i64 (mb : Int)] 36)).cell? ⟨wr.heap.size, 1, none⟩ = some (.int .i64 (mb : Int)) := by simp [World.cell?_alloc_at]
        generalize wr.alloc (.cells #[.int .i64 (ma : Int), .int .i64 (mb : Int)] 36) = w3 at *
        generalize wr.heap.size = b11 at *
        clear HW x0 x1
        by_cases hcut : high ≤ cur
        · have HR := Aside0.mk (show high = clipI (quietP p) low high from within_cut hcut HE.out HPT.out)
          clear d0 d1
          go_wp2_with fail
          go_ret
          exact ⟨ret_int HR.out, HW3.out.bel⟩
        · have hlt : cur < high := by omega
          obtain ⟨c0, c1, c2, c3⟩ := HW3.out.box
          have HMK2 := Aside0.mk (HMK.out (mviOf (ma, mb)) w3 (HT.out _ HW3.out.bel))
          unfold MakeIs at HMK2
          rw [HFQ.out.1] at HMK2
          have HDD := Aside0.mk (And.intro d0 d1)
          go_wp2_with fail
          refine HMK2.out.mono ?_
          rintro e w4 ⟨rfl, hb⟩
          have HW4 := Aside0.mk (And.intro (HW3.out.below hb) (And.intro (pw_cell_below hb HDD.out.1) (pw_cell_below hb HDD.out.2)))
          clear hb d0 d1 c0 c1 c2 c3 HW3 HMK2 HDD
          go_upto_region 11 with fail
          have HQB := Aside0.mk (BoxP.new w4 q)
          have HL5 := Aside0.mk (below_alloc (Below.refl w4.heap.size w4) (.cells #[.string q.cells, .int .i64 q.side, .int .i64 q.clock, .int .i64 q.full] 23))
          have HW5 := Aside0.mk (And.intro (HW4.out.1.below HL5.out) (And.intro (pw_cell_below HL5.out HW4.out.2.1) (pw_cell_below HL5.out HW4.out.2.2)))
          generalize w4.alloc (.cells #[.string q.cells, .int .i64 q.side, .int .i64 q.clock, .int .i64 q.full] 23) = w5 at *
          generalize w4.heap.size = b12 at *
          clear HL5 HW4
          have c0 := fun z : BelowOf w5 => z.cell HW5.out.1.box.c0
          have d0 := fun z : BelowOf w5 => z.cell HW5.out.2.1
          have d1 := fun z : BelowOf w5 => z.cell HW5.out.2.2
          refine wp_region_below (by kernel_rfl) ?_
          repeat (quiet_step (first
            | (go_at_call 73; exact BelowOf.calls (HAT1.out _))
            | (go_at_call 104; exact BelowOf.calls (HMV.out _))))
          refine wpQuiet_nil ?_
          rintro w6 ⟨⟨_, hb⟩, rfl⟩
          have HW6 := Aside0.mk (And.intro (HW5.out.1.below hb) (HQB.out.below hb))
          clear hb c0 d0 d1 HW5 HQB
          obtain ⟨e0, e1, e2, e3⟩ := HW6.out.2
          have HC6 := Aside0.mk (HIH.out q HFQ.out.2.1 HFQ.out.2.2.1 (-high) (-cur) w6 (by omega) (by omega) (by omega) (HT.out _ HW6.out.1.bel))
          unfold WithinIs at HC6
          have HVE := Aside0.mk (show pieceV (cel p.cells ma) ma - pieceV (cel p.cells ma) mb - pieceV c mb - v0 = valS q.cells q.side from HVM2.out.symm)
          have HCN := Aside0.mk (clip_neg (quietP q) cur high (Int.le_of_lt hlt))
          have hrb : -high ≤ clipI (quietP q) (-high) (-cur) ∧ clipI (quietP q) (-high) (-cur) ≤ -cur := by unfold clipI; omega
          have HNE := Aside0.mk (show min (max cur (-clipI (quietP q) (-high) (-cur))) high = min (max (bestF f v0 (ys.take (i + 1))) low) high by
            rw [HCN.out, HNX.out, HFQ.out.2.2.2]
            exact within_round hlt HE.out)
          rw [HVE.out]
          generalize clipI (quietP q) (-high) (-cur) = r at *
          obtain ⟨hr1, hr2⟩ := hrb
          generalize valS q.cells q.side = vq at *
          clear hcut
          go_wp2_with fail
          refine HC6.out.mono ?_
          rintro e w7 ⟨rfl, hb⟩
          have HW7 := Aside0.mk (HW6.out.1.below hb)
          clear hb e0 e1 e2 e3 HW6
          go_wp2_with fail
          go_roundg g
          case measure => omega
          case rel => exact ⟨i + 1, max cur (-r), rfl, by go_num, HIN.out, by omega, by omega, HNE, HW7⟩
theorem within_c : ∀ (k : Nat) (p : Pos), wellS p = 0 → nP p.cells ≤ k → nP p.cells ≤ 9 → ∀ (low high : Int) (W : World), -1073741824 ≤ low → low < high → high ≤ 1073741824 → TabW W → Calls Tryz.prog 68 #[posV p, .int .i64 (valS p.cells p.side), .int .i64 low, .int .i64 high] W (WithinIs p low high W)
  | 0, p, hw, hk, h9, low, high, W, h1, h2, h3, hT => within_next p hw h9 (fun q _ hq => by omega) low high W h1 h2 h3 hT
  | k + 1, p, hw, hk, h9, low, high, W, h1, h2, h3, hT => within_next p hw h9 (fun q hwq hq low high W h1 h2 h3 hT => within_c k q hwq (by omega) (by omega) low high W h1 h2 h3 hT) low high W h1 h2 h3 hT
end Go.Proofs.YtafmapadkpjliaaGreatDoor.K

/- quiet.Window. -/
namespace Go.Proofs.YtafmapadkpjliaaGreatDoor.K
open Go.RowKit Go.Lib Go.Proofs.YtafmapadkpjliaaGreatDoorW.PrintWords Go.Proofs.YtafmapadkpjliaaGreatDoor.Sp
set_option linter.unusedVariables false
set_option linter.unusedSimpArgs false
theorem ofQ_well {p : Pos} (hw : wellS p = 0) : ofQ p = quietP p := if_pos hw
theorem ofQ_not {p : Pos} (hw : wellS p ≠ 0) : ofQ p = 0 := if_neg hw
set_option maxRecDepth 100000 in
set_option maxHeartbeats 4000000 in
theorem qwin_c (p : Pos) (h9 : wellS p = 0 → nP p.cells ≤ 9) (low high : Int) (W : World) (hT : TabW W) : Calls Tryz.prog 40 #[posV p, .int .i64 low, .int .i64 high] W fun e w' => e = .returned (.int .i64 (winQ p low high)) ∧ Below W.heap.size W w' := by
  have HT := Aside0.mk (fun (W' : World) (hb : Below W.heap.size W W') => hT.below hb)
  have HWL := Aside0.mk (fun (W' : World) (hT : TabW W') => well_c p W' hT)
  have hu := Tryz.underlying23
  have HB0 := Aside0.mk (BoxP.new W p)
  have HL0 := Aside0.mk (below_alloc (Below.refl W.heap.size W) (.cells #[.string p.cells, .int .i64 p.side, .int .i64 p.clock, .int .i64 p.full] 23))
  by_cases h1 : high ≤ low
  · have HR := Aside0.mk (show winQ p low high = low from if_pos h1)
    clear hT h9
    go_enter Tryz.func40, Tryz.ntmps40
    go_wp2_with fail
    go_ret
    exact ⟨ret_int HR.out.symm, HL0.out⟩
  have hlh : low < high := by omega
  by_cases h2 : 1073741824 ≤ low
  · have HR := Aside0.mk (winQ_big (p := p) hlh h2)
    clear hT h9 hlh
    go_enter Tryz.func40, Tryz.ntmps40
    go_wp2_with fail
    go_ret
    exact ⟨ret_int HR.out.symm, HL0.out⟩
  by_cases h3 : high ≤ -1073741824
  · have HR := Aside0.mk (winQ_small (p := p) hlh h3)
    clear hT h9 hlh
    go_enter Tryz.func40, Tryz.ntmps40
    go_wp2_with fail
    go_ret
    exact ⟨ret_int HR.out.symm, HL0.out⟩
  by_cases hw : wellS p = 0
  · obtain ⟨hbd, hsd, _⟩ := argOk_yes (checkP_parts (well_check hw)).1
    have HV := Aside0.mk (fun W => vof_c p hbd hsd W)
    have HR := Aside0.mk (show clipI (quietP p) (max low (-1073741824)) (min high 1073741824) = winQ p low high by rw [← ofQ_well hw]; exact (winQ_cut hlh h2 h3).symm)
    have HWI := Aside0.mk (fun (W : World) (hT : TabW W) => (within_c 9 p hw (h9 hw) (h9 hw) (max low (-1073741824)) (min high 1073741824) W (by omega) (by omega) (by omega) hT))
    unfold WithinIs at HWI
    rw [hw] at HWL
    simp only [HR.out] at HWI
    generalize valS p.cells p.side = v0 at *
    generalize winQ p low high = r at *
    clear hT h9 hw hbd hsd HR hlh
    go_enter Tryz.func40, Tryz.ntmps40
    go_upto_region 1 with fail
    generalize W.alloc (.cells #[.string p.cells, .int .i64 p.side, .int .i64 p.clock, .int .i64 p.full] 23) = W1 at *
    obtain ⟨c0, c1, c2, c3⟩ := HB0.out
    go_wp2_with fail
    refine (HWL.out _ (HT.out _ HL0.out)).mono ?_
    rintro e w1 ⟨rfl, hb⟩
    have H1 := Aside0.mk (And.intro (HB0.out.below hb) (below_go HL0.out hb))
    clear hb c0 c1 c2 c3
    have c0 := fun z : BelowOf w1 => z.cell H1.out.1.c0
    have c1 := fun z : BelowOf w1 => z.cell H1.out.1.c1
    have c2 := fun z : BelowOf w1 => z.cell H1.out.1.c2
    have c3 := fun z : BelowOf w1 => z.cell H1.out.1.c3
    go_wp2_with fail
    refine wp_region_below (by kernel_rfl) ?_
    repeat (quiet_step (first
      | (go_at_call 69; exact BelowOf.calls (HV.out _))
      | (go_at_call 68; exact BelowOf.calls (HWI.out _ (HT.out _ (below_go H1.out.2 (BelowOf.bel _)))))))
    refine wpQuiet_nil ?_
    rintro w2 ⟨⟨_, hb⟩, rfl⟩
    have H2 := Aside0.mk (below_go H1.out.2 hb)
    clear hb c0 c1 c2 c3
    go_wp2_with fail
    go_ret
    exact ⟨rfl, H2.out⟩
  · have HR := Aside0.mk (show winQ p low high = min (max 0 low) high by rw [winQ_in hlh, ofQ_not hw]; rfl)
    generalize hx : wellS p = x at *
    have hn : (x != 0) = true := by simpa using hw
    generalize winQ p low high = r at *
    clear hT h9 hw hx hlh
    go_enter Tryz.func40, Tryz.ntmps40
    go_upto_region 1 with fail
    generalize W.alloc (.cells #[.string p.cells, .int .i64 p.side, .int .i64 p.clock, .int .i64 p.full] 23) = W1 at *
    obtain ⟨c0, c1, c2, c3⟩ := HB0.out
    go_wp2_with fail
    refine (HWL.out _ (HT.out _ HL0.out)).mono ?_
    rintro e w1 ⟨rfl, hb⟩
    have H1 := Aside0.mk (below_go HL0.out hb)
    clear hb
    go_wp2_with fail
    go_ret
    exact ⟨ret_int HR.out.symm, H1.out⟩
end Go.Proofs.YtafmapadkpjliaaGreatDoor.K

/- search: within: what it answers; its three ends without a round. -/
namespace Go.Proofs.YtafmapadkpjliaaGreatDoor.K
open Go.RowKit Go.Lib Go.Proofs.YtafmapadkpjliaaGreatDoorW.PrintWords Go.Proofs.YtafmapadkpjliaaGreatDoorW.PrintLast Go.Proofs.YtafmapadkpjliaaGreatDoorW.PrintMore Go.Proofs.YtafmapadkpjliaaGreatDoor.Sp
set_option linter.unusedVariables false
set_option linter.unusedSimpArgs false
/-- What within answers: what lies between the bounds, if not too many positions were looked at. -/
def WthIs (p : Pos) (d k : Nat) (low high : Int) (fb tb sb c : Nat) (left : Int) (W : World) (e : Ending) (w' : World) : Prop :=
  ∃ (r left' : Int) (c' : Nat), e = .returned (.int .i64 r) ∧ (low ≤ r ∧ r ≤ high) ∧ (0 ≤ left' → r = clipI (worthS d p.cells p.side p.clock k) low high) ∧ (left' < left ∧ left - (lookN 810 d : Int) ≤ left' ∧ (c' : Int) + left' ≤ (c : Int) + left) ∧ FinAt w' fb tb sb c' left' ∧ Ken (FinS fb tb sb) W w'
/-- Its contract. -/
def WthC (d : Nat) : Prop := ∀ (p : Pos) (k : Nat) (low high : Int) (fb tb sb c : Nat) (left : Int) (W : World), wellS p = 0 → nP p.cells ≤ 9 → k + d ≤ 100 → -1073741824 ≤ low → low ≤ high → high ≤ 1073741824 →
  (lookN 810 d : Int) ≤ left + 1099511627776 → left ≤ 2147483648 → (c : Int) + left ≤ 1152921504606846976 → FinAt W fb tb sb c left → TabW W →
  Calls Tryz.prog 23 #[.pointer (some ⟨fb, 0, none⟩), posV p, .int .i64 (d : Int), .int .i64 (k : Int), .int .i64 low, .int .i64 high] W (WthIs p d k low high fb tb sb c left W)
/-- A position's box beside the finder. -/
structure WfAt (W0 W : World) (fb tb sb c : Nat) (left : Int) (B : Nat) (p : Pos) : Prop where
  box : BoxP W B p
  fin : FinAt W fb tb sb c left
  ken : Ken (FinS fb tb sb) W0 W
theorem WfAt.below {W0 W W' : World} {fb tb sb c B : Nat} {left : Int} {p : Pos} (h : WfAt W0 W fb tb sb c left B p) (hb : Below W.heap.size W W') : WfAt W0 W' fb tb sb c left B p := ⟨h.box.below hb, h.fin.below hb, h.ken.below hb⟩
theorem BoxP.ken {S : Nat → Prop} {W W' : World} {B : Nat} {p : Pos} (h : BoxP W B p) (hk : Ken S W W') (hn : ¬ S B) : BoxP W' B p := ⟨hk.cell h.c0 hn, hk.cell h.c1 hn, hk.cell h.c2 hn, hk.cell h.c3 hn⟩
/-- A finder's blocks are older than what is made. -/
theorem FinAt.new {W : World} {fb tb sb c : Nat} {left : Int} (h : FinAt W fb tb sb c left) {B : Nat} (hB : W.heap.size ≤ B) : ¬ FinS fb tb sb B := fun hs => by have := h.slt hs; omega
theorem WfAt.start {W : World} {fb tb sb c : Nat} {left : Int} (h : FinAt W fb tb sb c left) (p : Pos) : WfAt W (W.alloc (.cells #[.string p.cells, .int .i64 p.side, .int .i64 p.clock, .int .i64 p.full] 23)) fb tb sb c left W.heap.size p :=
  ⟨BoxP.new W p, h.below (below_alloc (Below.refl _ _) _), (Ken.refl _ W).below (below_alloc (Below.refl _ _) _)⟩
theorem WfAt.less {W0 W : World} {fb tb sb c B : Nat} {left : Int} {p : Pos} (h : WfAt W0 W fb tb sb c left B p) (hB : B ≠ fb) (left' : Int) : WfAt W0 (W.setCell ⟨fb, 1, none⟩ (.int .i64 left')) fb tb sb c left' B p := by
  have hk : Ken (fun k => k = fb) W (W.setCell ⟨fb, 1, none⟩ (.int .i64 left')) := ken_set _ _ _ _
  exact ⟨h.box.ken hk hB, h.fin.less left', h.ken.trans hk (fun j hj => .inl (.inl hj))⟩
section
variable (p : Pos) (d k : Nat) (low high : Int) (fb tb sb c : Nat) (left : Int) (W : World)
set_option maxRecDepth 100000 in
set_option maxHeartbeats 4000000 in
theorem wth_none (D : Int) (hw : wellS p = 0) (hk : k + d ≤ 100) (h1 : -1073741824 ≤ low) (h2 : low ≤ high) (h3 : high ≤ 1073741824) (hl1 : (lookN 810 d : Int) ≤ left + 1099511627776) (hl2 : left ≤ 2147483648) (hf : FinAt W fb tb sb c left) (hT : TabW W) (hno : legalL p = []) :
    Calls Tryz.prog 23 #[.pointer (some ⟨fb, 0, none⟩), posV p, .int .i64 D, .int .i64 (k : Int), .int .i64 low, .int .i64 high] W (WthIs p d k low high fb tb sb c left W) := by
  have HT := Aside0.mk (fun (W' : World) (hb : Ken (FinS fb tb sb) W W') => tabW_ken hT hb hf.gS)
  have HM := Aside0.mk (fun (W : World) (hT : TabW W) => lmoves_c p W hT)
  rw [hno] at HM
  have hp := lookN_pos 810 d
  have HR := Aside0.mk (show min (max (-10000 + (k : Int)) low) high = clipI (worthS d p.cells p.side p.clock k) low high by rw [worth_none p d k (by rw [← legal_eq hw]; exact hno)]; rfl)
  have HEND := Aside0.mk (fun (w' : World) (hx : FinAt w' fb tb sb c (left - 1)) (hy : Ken (FinS fb tb sb) W w') => show WthIs p d k low high fb tb sb c left W (.returned (.int .i64 (min (max (-10000 + (k : Int)) low) high))) w' from ⟨_, left - 1, c, rfl, by omega, fun _ => HR.out, by omega, hx, hy⟩)
  have HW0 := Aside0.mk (WfAt.start hf p)
  have HNE := Aside0.mk (show W.heap.size ≠ fb from fun e => by have := hf.lt.1; omega)
  have hkb : (k : Int) ≤ 100 := by omega
  have hlo : -1099511627776 ≤ left := by omega
  have hu := Tryz.underlying23
  clear hw hk hl1 hf hT hno hp HR
  go_enter Tryz.func23, Tryz.ntmps23
  go_upto_region 1 with fail
  generalize W.alloc (.cells #[.string p.cells, .int .i64 p.side, .int .i64 p.clock, .int .i64 p.full] 23) = W1 at *
  have f1 := HW0.out.fin.lf
  have f2 := HW0.out.fin.fz
  go_upto_region 2 with fail
  have HW1 := Aside0.mk (HW0.out.less HNE.out (left - 1))
  clear f1 f2 HW0
  generalize W1.setCell ⟨fb, 1, none⟩ (.int .i64 (left - 1)) = W2 at *
  obtain ⟨c0, c1, c2, c3⟩ := HW1.out.box
  go_wp2_with fail
  refine (HM.out _ (HT.out _ HW1.out.ken)).mono ?_
  rintro e w1 ⟨v, rfl, ho, hb⟩
  obtain ⟨A, cp, hv⟩ := ho.reads.form
  have hv2 : v = .slice A 0 cp := hv
  clear hv
  subst hv2
  have HW2 := Aside0.mk (HW1.out.below hb)
  clear ho hb c0 c1 c2 c3
  go_wp2_with fail
  go_ret
  exact HEND.out _ HW2.out.fin HW2.out.ken
set_option maxRecDepth 100000 in
set_option maxHeartbeats 4000000 in
theorem wth_clock (D : Int) (hw : wellS p = 0) (hk : k + d ≤ 100) (h1 : -1073741824 ≤ low) (h2 : low ≤ high) (h3 : high ≤ 1073741824) (hl1 : (lookN 810 d : Int) ≤ left + 1099511627776) (hl2 : left ≤ 2147483648) (hf : FinAt W fb tb sb c left) (hT : TabW W) (hno : legalL p ≠ []) (hc : p.clock = 120) (hk0 : 0 < k) :
    Calls Tryz.prog 23 #[.pointer (some ⟨fb, 0, none⟩), posV p, .int .i64 D, .int .i64 (k : Int), .int .i64 low, .int .i64 high] W (WthIs p d k low high fb tb sb c left W) := by
  have HT := Aside0.mk (fun (W' : World) (hb : Ken (FinS fb tb sb) W W') => tabW_ken hT hb hf.gS)
  have HM := Aside0.mk (fun (W : World) (hT : TabW W) => lmoves_c p W hT)
  have hp := lookN_pos 810 d
  have HR := Aside0.mk (show min (max 0 low) high = clipI (worthS d p.cells p.side p.clock k) low high by rw [worth_clock p d k (by rw [← legal_eq hw]; exact hno) ⟨hc, hk0⟩]; rfl)
  have HEND := Aside0.mk (fun (w' : World) (hx : FinAt w' fb tb sb c (left - 1)) (hy : Ken (FinS fb tb sb) W w') => show WthIs p d k low high fb tb sb c left W (.returned (.int .i64 (min (max 0 low) high))) w' from ⟨_, left - 1, c, rfl, by omega, fun _ => HR.out, by omega, hx, hy⟩)
  have HW0 := Aside0.mk (WfAt.start hf p)
  have HNE := Aside0.mk (show W.heap.size ≠ fb from fun e => by have := hf.lt.1; omega)
  have hkb : (k : Int) ≤ 100 := by omega
  have hlo : -1099511627776 ≤ left := by omega
  have hu := Tryz.underlying23
  have HLN := Aside0.mk (show (legalL p).length ≤ 8100 by rw [legal_eq hw]; exact legalR_len _ _)
  have hln0 : ((legalL p).length : Int) ≠ 0 := by
    cases h : legalL p with
    | nil => exact absurd h hno
    | cons x r => simp; omega
  have hlnb : (((legalL p).length : Int) == 0) = false := by simpa using hln0
  have hcb : (p.clock == 120) = true := by simpa using hc
  have hk1 : (0 : Int) < (k : Int) := by omega
  clear hw hk hl1 hf hT hno hp HR hln0 hc hk0
  generalize legalL p = l at *
  go_enter Tryz.func23, Tryz.ntmps23
  go_upto_region 1 with fail
  generalize W.alloc (.cells #[.string p.cells, .int .i64 p.side, .int .i64 p.clock, .int .i64 p.full] 23) = W1 at *
  have f1 := HW0.out.fin.lf
  have f2 := HW0.out.fin.fz
  go_upto_region 2 with fail
  have HW1 := Aside0.mk (HW0.out.less HNE.out (left - 1))
  clear f1 f2 HW0
  generalize W1.setCell ⟨fb, 1, none⟩ (.int .i64 (left - 1)) = W2 at *
  obtain ⟨c0, c1, c2, c3⟩ := HW1.out.box
  go_wp2_with fail
  refine (HM.out _ (HT.out _ HW1.out.ken)).mono ?_
  rintro e w1 ⟨v, rfl, ho, hb⟩
  have HW2 := Aside0.mk (HW1.out.below hb)
  obtain ⟨A, cp, rfl⟩ := ho.reads.form
  clear ho hb c0 c1 c2 c3
  obtain ⟨c0, c1, c2, c3⟩ := HW2.out.box
  go_wp2_with fail
  go_ret
  exact HEND.out _ HW2.out.fin HW2.out.ken
theorem winQ_clip {p : Pos} (hw : wellS p = 0) {low high : Int} (h : low ≤ high) : winQ p low high = clipI (quietP p) low high := by
  by_cases h2 : high ≤ low
  · have : winQ p low high = low := if_pos h2
    rw [this]; unfold clipI; omega
  · rw [winQ_in (by omega), ofQ_well hw]
set_option maxRecDepth 100000 in
set_option maxHeartbeats 4000000 in
theorem wth_leaf (hw : wellS p = 0) (hk : k ≤ 100) (h1 : -1073741824 ≤ low) (h2 : low ≤ high) (h3 : high ≤ 1073741824) (hl1 : (lookN 810 0 : Int) ≤ left + 1099511627776) (hl2 : left ≤ 2147483648) (hf : FinAt W fb tb sb c left) (hT : TabW W) (hno : legalL p ≠ []) (h9 : nP p.cells ≤ 9) (hc : ¬ (p.clock = 120 ∧ 0 < k)) :
    Calls Tryz.prog 23 #[.pointer (some ⟨fb, 0, none⟩), posV p, .int .i64 0, .int .i64 (k : Int), .int .i64 low, .int .i64 high] W (WthIs p 0 k low high fb tb sb c left W) := by
  have HT := Aside0.mk (fun (W' : World) (hb : Ken (FinS fb tb sb) W W') => tabW_ken hT hb hf.gS)
  have HM := Aside0.mk (fun (W : World) (hT : TabW W) => lmoves_c p W hT)
  have HQ := Aside0.mk (fun (W : World) (hT : TabW W) => qwin_c p (fun _ => h9) low high W hT)
  have hp := lookN_pos 810 0
  have HR := Aside0.mk (show winQ p low high = clipI (worthS 0 p.cells p.side p.clock k) low high by rw [worth_leaf p k (by rw [← legal_eq hw]; exact hno) hc, winQ_clip hw h2])
  have hin := clip_in (worthS 0 p.cells p.side p.clock k) low high h2
  rw [← HR.out] at hin
  have HEND := Aside0.mk (fun (w' : World) (hx : FinAt w' fb tb sb c (left - 1)) (hy : Ken (FinS fb tb sb) W w') => show WthIs p 0 k low high fb tb sb c left W (.returned (.int .i64 (winQ p low high))) w' from ⟨_, left - 1, c, rfl, by omega, fun _ => HR.out, by omega, hx, hy⟩)
  have HW0 := Aside0.mk (WfAt.start hf p)
  have HNE := Aside0.mk (show W.heap.size ≠ fb from fun e => by have := hf.lt.1; omega)
  have hkb : (k : Int) ≤ 100 := by omega
  have hlo : -1099511627776 ≤ left := by omega
  have hu := Tryz.underlying23
  have HLN := Aside0.mk (show (legalL p).length ≤ 8100 by rw [legal_eq hw]; exact legalR_len _ _)
  have hln0 : ((legalL p).length : Int) ≠ 0 := by
    cases h : legalL p with
    | nil => exact absurd h hno
    | cons x r => simp; omega
  have hlnb : (((legalL p).length : Int) == 0) = false := by simpa using hln0
  generalize winQ p low high = r at *
  have hcc : (p.clock == 120) = false ∨ decide (0 < k) = false := by
    by_cases hk0 : 0 < k
    · exact .inl (by simpa using fun he => hc ⟨he, hk0⟩)
    · exact .inr (by simpa using hk0)
  clear hw hk hl1 hf hT hno hp HR hln0 hc h9 hin
  generalize legalL p = l at *
  cases hcl : (p.clock == 120)
  all_goals
    rw [hcl] at hcc
    simp only [Bool.true_eq_false, false_or, true_or] at hcc
    go_enter Tryz.func23, Tryz.ntmps23
    go_upto_region 1 with fail
    generalize W.alloc (.cells #[.string p.cells, .int .i64 p.side, .int .i64 p.clock, .int .i64 p.full] 23) = W1 at *
    have f1 := HW0.out.fin.lf
    have f2 := HW0.out.fin.fz
    go_upto_region 2 with fail
    have HW1 := Aside0.mk (HW0.out.less HNE.out (left - 1))
    clear f1 f2 HW0
    generalize W1.setCell ⟨fb, 1, none⟩ (.int .i64 (left - 1)) = W2 at *
    obtain ⟨c0, c1, c2, c3⟩ := HW1.out.box
    go_wp2_with fail
    refine (HM.out _ (HT.out _ HW1.out.ken)).mono ?_
    rintro e w1 ⟨v, rfl, ho, hb⟩
    have HW2 := Aside0.mk (HW1.out.below hb)
    obtain ⟨A, cp, rfl⟩ := ho.reads.form
    clear ho hb c0 c1 c2 c3
    obtain ⟨c0, c1, c2, c3⟩ := HW2.out.box
    go_wp2_with fail
    refine (HQ.out _ (HT.out _ HW2.out.ken)).mono ?_
    rintro e w3 ⟨rfl, hb⟩
    have HW3 := Aside0.mk (HW2.out.below hb)
    clear hb c0 c1 c2 c3
    go_wp2_with fail
    go_ret
    exact HEND.out _ HW3.out.fin HW3.out.ken
end
end Go.Proofs.YtafmapadkpjliaaGreatDoor.K

/- search: within, the whole. -/
namespace Go.Proofs.YtafmapadkpjliaaGreatDoor.K
open Go.RowKit Go.Lib Go.Proofs.YtafmapadkpjliaaGreatDoorW.PrintWords Go.Proofs.YtafmapadkpjliaaGreatDoorW.PrintLast Go.Proofs.YtafmapadkpjliaaGreatDoorW.PrintMore Go.Proofs.YtafmapadkpjliaaGreatDoor.Sp
set_option linter.unusedVariables false
set_option linter.unusedSimpArgs false
/-- What stands between two rounds of within: the finder, the position, its moves, the best one. -/
structure WlAt (W0 W : World) (fb tb sb c : Nat) (left : Int) (B : Nat) (p : Pos) (base b cap : Nat) (n : Nat) (ys : List Mv) (mb : Nat) (m : Mv) : Prop where
  wf : WfAt W0 W fb tb sb c left B p
  own : W.ownsRow base 36 2 (.slice (some ⟨b, 0, none⟩) n cap) n (flatM ys)
  m0 : W.cell? ⟨mb, 0, none⟩ = some (.int .i64 (m.1 : Int))
  m1 : W.cell? ⟨mb, 1, none⟩ = some (.int .i64 (m.2 : Int))
  z0 : W.frozen? ⟨mb, 0, none⟩ = false
  z1 : W.frozen? ⟨mb, 1, none⟩ = false
  gm : W0.heap.size ≤ mb
  gb : W0.heap.size ≤ b
  gB : W0.heap.size ≤ B
  nb : mb ≠ b
  nB : mb ≠ B
  sm : ∀ k, FinS fb tb sb k → k < W0.heap.size
theorem own_ken {S : Nat → Prop} {W W' : World} {base b n cap : Nat} {xs : List Value} (h : W.ownsRow base 36 2 (.slice (some ⟨b, 0, none⟩) n cap) n xs) (hk : Ken S W W') (hn : ¬ S b) : W'.ownsRow base 36 2 (.slice (some ⟨b, 0, none⟩) n cap) n xs :=
  hk.row h (fun k hk2 => by
    have : b = k := by simpa [Value.ownBlock] using hk2
    rw [← this]; exact hn)
section
variable {W0 W W' : World} {fb tb sb c : Nat} {left : Int} {B : Nat} {p : Pos} {base b cap n : Nat} {ys : List Mv} {mb : Nat} {m : Mv}
theorem WlAt.below (h : WlAt W0 W fb tb sb c left B p base b cap n ys mb m) (hb : Below W.heap.size W W') : WlAt W0 W' fb tb sb c left B p base b cap n ys mb m :=
  ⟨h.wf.below hb, pw_own_below h.own hb, below_cell hb _ _ _ h.m0, below_cell hb _ _ _ h.m1, (hb.frozen (p := ⟨mb, 0, none⟩) (World.block_lt_of_cell? W _ h.m0)).trans h.z0, (hb.frozen (p := ⟨mb, 1, none⟩) (World.block_lt_of_cell? W _ h.m1)).trans h.z1, h.gm, h.gb, h.gB, h.nb, h.nB, h.sm⟩
theorem WlAt.out (h : WlAt W0 W fb tb sb c left B p base b cap n ys mb m) {j : Nat} (hj : W0.heap.size ≤ j) : ¬ FinS fb tb sb j := fun hs => by have := h.sm j hs; omega
/-- A call that turns the finder's blocks alone. -/
theorem WlAt.call (h : WlAt W0 W fb tb sb c left B p base b cap n ys mb m) {c' : Nat} {left' : Int} (hf : FinAt W' fb tb sb c' left') (hk : Ken (FinS fb tb sb) W W') : WlAt W0 W' fb tb sb c' left' B p base b cap n ys mb m :=
  ⟨⟨h.wf.box.ken hk (h.out h.gB), hf, h.wf.ken.trans hk (fun j hj => .inl hj)⟩, own_ken h.own hk (h.out h.gb), hk.cell h.m0 (h.out h.gm), hk.cell h.m1 (h.out h.gm), (hk.free (World.block_lt_of_cell? W _ h.m0) (h.out h.gm)).trans h.z0, (hk.free (World.block_lt_of_cell? W _ h.m1) (h.out h.gm)).trans h.z1, h.gm, h.gb, h.gB, h.nb, h.nB, h.sm⟩
/-- Another best move. -/
theorem WlAt.best (h : WlAt W0 W fb tb sb c left B p base b cap n ys mb m) (m2 : Mv) : WlAt W0 ((W.setCell ⟨mb, 0, none⟩ (.int .i64 (m2.1 : Int))).setCell ⟨mb, 1, none⟩ (.int .i64 (m2.2 : Int))) fb tb sb c left B p base b cap n ys mb m2 := by
  have hk : Ken (fun k => k = mb) W ((W.setCell ⟨mb, 0, none⟩ (.int .i64 (m2.1 : Int))).setCell ⟨mb, 1, none⟩ (.int .i64 (m2.2 : Int))) := (ken_set W mb 0 _).trans (ken_set _ mb 1 _) (fun j hj => .inl hj)
  have hne : (⟨mb, 1, none⟩ : Addr) ≠ ⟨mb, 0, none⟩ := by intro e; injection e with _ e2; omega
  have i0 : (W.cell? ⟨mb, 0, none⟩).isSome = true := by rw [h.m0]; rfl
  have i1 : ((W.setCell ⟨mb, 0, none⟩ (.int .i64 (m2.1 : Int))).cell? ⟨mb, 1, none⟩).isSome = true := by
    rw [World.cell?_setCell_other _ _ _ _ hne.symm, h.m1]; rfl
  refine ⟨⟨h.wf.box.ken hk (fun e => h.nB e.symm), h.wf.fin.ken hk (fun k hs e => h.out h.gm (e ▸ hs)), h.wf.ken.trans hk (fun j hj => .inr (by rw [hj]; exact h.gm))⟩, own_ken h.own hk (fun e => h.nb e.symm), ?_, ?_, ?_, ?_, h.gm, h.gb, h.gB, h.nb, h.nB, h.sm⟩
  · rw [World.cell?_setCell_other _ _ _ _ hne]
    exact World.cell?_setCell_same' _ _ _ i0
  · exact World.cell?_setCell_same' _ _ _ i1
  · simp only [World.frozen?_setCell]; exact h.z0
  · simp only [World.frozen?_setCell]; exact h.z1
end
/-- The table's Put, of a finder. -/
theorem put_some {W : World} {fb tb sb c : Nat} {left : Int} (h : FinAt W fb tb sb c left) (k D : Int) (ma mb : Nat) (hk : 0 ≤ k) (hc : c < 4611686018427387904) :
    Calls Tryz.prog 43 #[.pointer (some ⟨tb, 0, none⟩), .agg #[.int .u64 k, .int .i64 D, .int .i64 0, .int .i64 0, .int .i64 (ma : Int), .int .i64 (mb : Int)]] W fun x w' => ∃ (b : Bool) (c' : Nat), x = .returned (.bool b) ∧ FinAt w' fb tb sb c' left ∧ c' ≤ c + 1 ∧ Ken (FinS fb tb sb) W w' := by
  obtain ⟨n, T, ht⟩ := h.tab
  exact (P.put_walk W tb sb n c T ⟨k, D, 0, 0, ma, mb⟩ hk ht hc).mono fun _ _ ⟨h1, h2, h3⟩ => ⟨_, _, h1, h.put h2 h3, putF_count _ _ _ _, ken_turned h3⟩
theorem look_room {left x : Int} {i n L : Nat} (hi : i < n) (hn : n ≤ 810) (hx : left - 1 - ((i * L : Nat) : Int) ≤ x) (hl : ((1 + 810 * L : Nat) : Int) ≤ left + 1099511627776) : (L : Int) ≤ x + 1099511627776 := by
  have h1 : (i + 1) * L ≤ 810 * L := Nat.mul_le_mul_right _ (by omega)
  have h2 : (i + 1) * L = i * L + L := Nat.succ_mul _ _
  omega
theorem look_next {left x z : Int} {i L : Nat} (hx : left - 1 - ((i * L : Nat) : Int) ≤ x) (hz : x - (L : Int) ≤ z) : left - 1 - (((i + 1) * L : Nat) : Int) ≤ z := by
  have h2 : (i + 1) * L = i * L + L := Nat.succ_mul _ _
  omega
theorem look_last {left x : Int} {i n L : Nat} (hi : i ≤ n) (hn : n ≤ 810) (hx : left - 1 - ((i * L : Nat) : Int) ≤ x) : left - ((1 + 810 * L : Nat) : Int) ≤ x := by
  have h1 : i * L ≤ 810 * L := Nat.mul_le_mul_right _ (by omega)
  omega
end Go.Proofs.YtafmapadkpjliaaGreatDoor.K
