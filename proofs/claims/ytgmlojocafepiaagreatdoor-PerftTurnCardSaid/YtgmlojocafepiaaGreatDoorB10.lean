/- Walks and plain laws that several statements lean on, joined: no statement of the seat is proved here. -/
import Derived.Deep.AppendLies
import Derived.Deep.RegionLaw
import Derived.Deep.RegionHeld3
import Derived.Deep.Cut
import Derived.Test.YtgmlojocafepiaaGreatDoorB6
import Derived.Test.YtgmlojocafepiaaGreatDoorB8
import Derived.Test.YtgmlojocafepiaaGreatDoorB7
import Derived.Test.YtgmlojocafepiaaGreatDoorB9

/- Plain law: texts of bytes; a position from the other side. -/
namespace Go.Proofs.YtgmlojocafepiaaGreatDoor.K
open Go.RowKit Go.Lib Go.Proofs.YtgmlojocafepiaaGreatDoorW.PrintWords Go.Proofs.YtgmlojocafepiaaGreatDoor.Sp
set_option linter.unusedVariables false
theorem swap14 : ∀ x ∈ pieces14, swapN x ∈ pieces14 ∧ x ∈ letters ∧ swapN (swapN x) = x ∧ kindN (swapN x) = kindN x ∧ mostN (swapN x) = mostN x := by decide
theorem check_turn {p : Pos} (hck : checkP p = 0) : checkP (turnP p) = 0 := by
  obtain ⟨hao, hbad, hri⟩ := checkP_parts hck
  obtain ⟨hbd, hsd, h1, h2, h3, h4⟩ := argOk_yes hao
  obtain ⟨ht, hc⟩ := turnS_is hbd
  have hl : ∀ n, n < 90 → cel p.cells n ∈ letters := fun n hn => board_cell hbd hn
  refine checkP_mk ?_ ?_ ?_
  · unfold argOk turnP
    simp only
    rw [ht]
    simp only [Bool.true_and, decide_eq_true_eq]
    omega
  · intro x hx
    obtain ⟨m1, m2, m3, m4, m5⟩ := swap14 x hx
    have e : cntX (turnS p.cells) 90 x = cntX p.cells 90 (swapN x) := by
      unfold cntX
      refine count_flip (fun b hb => ?_)
      rw [hc _ (by omega), turnC_at _ hb, Bool.eq_iff_iff, beq_iff_eq, beq_iff_eq]
      constructor
      · intro h; rw [← h]; exact ((swap_facts _ (hl b hb)).2.2.2.2).symm
      · intro h; rw [h]; exact m3
    have := hbad _ m1
    unfold badX at this ⊢
    simp only [turnP]
    have e2 : cntX (turnP p).cells 90 x = cntX p.cells 90 (swapN x) := e
    rw [m4, m5] at this
    rw [← e] at this
    exact this
  · intro n hn
    simp only [turnP]
    rw [hc n hn]
    have hfl : 89 - (89 - n) = n := by omega
    rcases hri (89 - n) (by omega) with h | h
    · left
      unfold turnC
      rw [h]; rfl
    · right
      have := may_turn _ (hl (89 - n) (by omega)) ⟨89 - n, by omega⟩
      simp only [hfl] at this
      unfold turnC
      rw [this]
      exact h
theorem gath_turn {p : Pos} (hck : checkP p = 0) : gathP (turnP p) (fun _ => true) = ((gathP p (fun _ => true)).map flipM).reverse := by
  obtain ⟨hbd, hsd, _⟩ := argOk_yes (checkP_parts hck).1
  obtain ⟨ht, hc⟩ := turnS_is hbd
  have hl : ∀ n, n < 90 → cel p.cells n ∈ letters := fun n hn => board_cell hbd hn
  unfold gathP
  rw [if_pos hck, if_pos (check_turn hck)]
  unfold gathM
  refine flatMap_flip (fun a ha => ?_)
  unfold fromM
  simp only [turnP]
  have hsa : (sideN (cel (turnS p.cells) (89 - a)) = 1 - p.side) ↔ (sideN (cel p.cells a) = p.side) := by
    rw [hc _ (by omega), turnC_at _ ha, (swap_facts _ (hl a ha)).2.2.2.1]
    have := sideV (cel p.cells a)
    split <;> omega
  by_cases hs : sideN (cel p.cells a) = p.side
  · rw [if_pos hs]
    refine Eq.trans (if_pos (hsa.2 hs)) ?_
    have e : ∀ l : List Nat, l.filter (fun b => (fun _ => true) (cel (turnS p.cells) b)) = l := fun l => by simp
    have e' : ∀ l : List Nat, l.filter (fun b => (fun _ => true) (cel p.cells b)) = l := fun l => by simp
    rw [e, e']
    unfold allN
    rw [filter_flip (P := fastN (cel p.cells) a) (fun b hb => ?_)]
    · rw [List.map_reverse, List.map_map, List.map_map]
      rfl
    · rw [fast_congr (d := turnC (cel p.cells)) (fun n hn => hc n hn) (by omega) (by omega) (fun n hn => by rw [hc n hn]; exact turnC_letters hl hn)]
      exact fast_turn hl ha hb
  · rw [if_neg hs]
    exact Eq.trans (if_neg (fun h => hs (hsa.1 h))) rfl
theorem gath_side {p : Pos} {m : Mv} (hck : checkP p = 0) (hm : m ∈ gathP p (fun _ => true)) : sideN (cel p.cells m.1) = p.side ∧ m ∉ gathP ⟨p.cells, 1 - p.side, p.clock, p.full⟩ (fun _ => true) := by
  obtain ⟨_, hsd, _⟩ := argOk_yes (checkP_parts hck).1
  have h := (gath_mem hm).2.2.2.1
  refine ⟨h, fun hm2 => ?_⟩
  have h2 := (gath_mem hm2).2.2.2.1
  simp only at h2
  omega
end Go.Proofs.YtgmlojocafepiaaGreatDoor.K

/- CheckTurn: plain law. -/
namespace Go.Proofs.YtgmlojocafepiaaGreatDoor.K
open Go.RowKit Go.Lib Go.Proofs.YtgmlojocafepiaaGreatDoorW.PrintWords Go.Proofs.YtgmlojocafepiaaGreatDoor.Sp
set_option linter.unusedVariables false
theorem pawn_swap (a : Int) (ha : a = 0 ∨ a = 1) : swapN (pawnO a) = pawnO (1 - a) ∧ pawnO a ∈ letters := by
  rcases ha with rfl | rfl <;> decide
/-- Who attacks a square, seen from the other side. -/
theorem att_turn {s : ByteArray} (hs : isBoard s = true) (n : Nat) (hn : n < 90) (a : Int) (ha : a = 0 ∨ a = 1) : attS (turnS s) ((89 - n : Nat) : Int) (1 - a) = ((attS s (n : Int) a).map flip).reverse := by
  have hz := board_size hs
  obtain ⟨hts, htc⟩ := turnS_is hs
  have hz2 := board_size hts
  obtain ⟨hc1, hc2⟩ := pawnO_cell a
  obtain ⟨hd1, hd2⟩ := pawnO_cell (1 - a)
  obtain ⟨hsw, hlp⟩ := pawn_swap a ha
  rw [att_same s hs n hn a ha, att_same (turnS s) hts (89 - n) (by omega) (1 - a) (by omega)]
  have hb := putT_board s hs n (pawnO a) hc1 hc2
  have hcel : ∀ i, i < 90 → cel (putT s n (pawnO a)) i = if i = n then pawnO a else cel s i := fun i hi => putT_cel s n _ i hc2 (by omega)
  have hcel2 : ∀ i, i < 90 → cel (putT (turnS s) (89 - n) (pawnO (1 - a))) i = turnC (cel (putT s n (pawnO a))) i := by
    intro i hi
    rw [putT_cel _ _ _ i hd2 (by omega)]
    unfold turnC
    rw [hcel (89 - i) (by omega)]
    by_cases h : i = 89 - n
    · rw [if_pos h, if_pos (by omega), hsw]
    · rw [if_neg h, if_neg (by omega), htc i hi]; rfl
  have hl : ∀ i, i < 90 → cel (putT s n (pawnO a)) i ∈ letters := fun i hi => board_cell hb hi
  unfold rattL
  refine filter_flip fun f hf => ?_
  have e1 := hcel2 (89 - f) (by omega)
  rw [turnC_at _ hf] at e1
  rw [e1, fast_congr hcel2 (by omega) (by omega) (fun i hi => by rw [hcel2 i hi]; exact turnC_letters hl hi), fast_turn hl hf hn]
  congr 1
  obtain ⟨_, _, _, fs, _⟩ := swap_facts _ (hl f hf)
  rw [fs]
  have := sideV (cel (putT s n (pawnO a)) f)
  rw [Bool.eq_iff_iff, beq_iff_eq, beq_iff_eq]
  split <;> omega
theorem swap14' : ∀ x ∈ pieces14, swapN x ∈ pieces14 ∧ x ∈ letters ∧ swapN (swapN x) = x ∧ kindN (swapN x) = kindN x ∧ mostN (swapN x) = mostN x := by decide
theorem find_turn {s : ByteArray} (hs : isBoard s = true) (x : Nat) (hx : x ∈ pieces14) : findS (turnS s) x = ((findS s (swapN x)).map flip).reverse := by
  obtain ⟨hts, htc⟩ := turnS_is hs
  obtain ⟨m1, m2, m3, m4, m5⟩ := swap14' x hx
  unfold findS
  rw [if_pos hts, if_pos hs]
  refine filter_flip fun b hb => ?_
  rw [htc _ (by omega), turnC_at _ hb]
  have hl := board_cell hs hb
  rw [Bool.eq_iff_iff, decide_eq_true_eq, decide_eq_true_eq]
  constructor
  · intro h; rw [← h]; exact ((swap_facts _ hl).2.2.2.2).symm
  · intro h; rw [h]; exact m3
/-- A position's errors but for checks, seen from the other side. -/
theorem check_turn' {p : Pos} (hb : isBoard p.cells = true) (hs : p.side = 0 ∨ p.side = 1) : checkP (turnP p) = checkP p := by
  obtain ⟨ht, hc⟩ := turnS_is hb
  have hl : ∀ n, n < 90 → cel p.cells n ∈ letters := fun n hn => board_cell hb hn
  have e1 : argOk (turnP p) = argOk p := by
    unfold argOk
    rw [show (turnP p).cells = turnS p.cells from rfl, show (turnP p).side = 1 - p.side from rfl, show (turnP p).clock = p.clock from rfl, show (turnP p).full = p.full from rfl, ht, hb]
    congr 1
    rw [Bool.eq_iff_iff, decide_eq_true_eq, decide_eq_true_eq]
    constructor <;> rintro ⟨h1, h2⟩ <;> exact ⟨by omega, h2⟩
  have hcnt : ∀ x ∈ pieces14, cntX (turnS p.cells) 90 x = cntX p.cells 90 (swapN x) := by
    intro x hx
    obtain ⟨m1, m2, m3, m4, m5⟩ := swap14' x hx
    unfold cntX
    refine count_flip (fun b hb => ?_)
    rw [hc _ (by omega), turnC_at _ hb, Bool.eq_iff_iff, beq_iff_eq, beq_iff_eq]
    constructor
    · intro h; rw [← h]; exact ((swap_facts _ (hl b hb)).2.2.2.2).symm
    · intro h; rw [h]; exact m3
  have hbad : ∀ x ∈ pieces14, badX (turnS p.cells) x = badX p.cells (swapN x) := by
    intro x hx
    obtain ⟨m1, m2, m3, m4, m5⟩ := swap14' x hx
    unfold badX
    rw [hcnt x hx, m4, m5]
  have e2 : pieces14.any (badX (turnS p.cells)) = pieces14.any (badX p.cells) := by
    rw [Bool.eq_iff_iff, List.any_eq_true, List.any_eq_true]
    constructor
    · rintro ⟨x, hx, h⟩
      exact ⟨swapN x, (swap14' x hx).1, by rw [← hbad x hx]; exact h⟩
    · rintro ⟨x, hx, h⟩
      refine ⟨swapN x, (swap14' x hx).1, ?_⟩
      rw [hbad _ (swap14' x hx).1, (swap14' x hx).2.2.1]
      exact h
  have hone : ∀ n, n < 90 → (cel (turnS p.cells) n == 46 || mayN (cel (turnS p.cells) n) n) = (cel p.cells (89 - n) == 46 || mayN (cel p.cells (89 - n)) (89 - n)) := by
    intro n hn
    rw [hc n hn]
    have hfl : 89 - (89 - n) = n := by omega
    have := may_turn _ (hl (89 - n) (by omega)) ⟨89 - n, by omega⟩
    simp only [hfl] at this
    have e46 : (turnC (cel p.cells) n == 46) = (cel p.cells (89 - n) == 46) := by
      have := turnC_empty hl (n := 89 - n) (by omega)
      rw [hfl] at this
      exact this
    rw [e46]
    unfold turnC
    rw [this]
  have e3 : rightX (turnS p.cells) 90 = rightX p.cells 90 := by
    unfold rightX
    rw [Bool.eq_iff_iff, List.all_eq_true, List.all_eq_true]
    constructor
    · intro h n hn
      have hn := List.mem_range.1 hn
      have := h (89 - n) (List.mem_range.2 (by omega))
      rw [hone _ (by omega), show 89 - (89 - n) = n by omega] at this
      exact this
    · intro h n hn
      have hn := List.mem_range.1 hn
      rw [hone _ hn]
      exact h (89 - n) (List.mem_range.2 (by omega))
  unfold checkP
  rw [e1, show (turnP p).cells = turnS p.cells from rfl, e2, e3]
end Go.Proofs.YtgmlojocafepiaaGreatDoor.K

/- CheckTurn: plain law (2). -/
namespace Go.Proofs.YtgmlojocafepiaaGreatDoor.K
open Go.RowKit Go.Lib Go.Proofs.YtgmlojocafepiaaGreatDoorW.PrintWords Go.Proofs.YtgmlojocafepiaaGreatDoor.Sp
set_option linter.unusedVariables false
/-- One general of each side. -/
structure OneK (s : ByteArray) (a b : Nat) : Prop where
  bd : isBoard s = true
  fa : findS s 75 = [a]
  fb : findS s 107 = [b]
theorem OneK.lt {s : ByteArray} {a b : Nat} (h : OneK s a b) : a < 90 ∧ b < 90 :=
  ⟨(findS_lt s 75 a (by rw [h.fa]; exact List.mem_cons_self)).1, (findS_lt s 107 b (by rw [h.fb]; exact List.mem_cons_self)).1⟩
theorem OneK.gen {s : ByteArray} {a b : Nat} (h : OneK s a b) : genS s 0 = a ∧ genS s 1 = b := by
  constructor
  · unfold genS; rw [if_pos (.inl rfl), show kingO 0 = 75 from rfl, h.fa]; rfl
  · unfold genS; rw [if_pos (.inr rfl), show kingO 1 = 107 from rfl, h.fb]; rfl
theorem OneK.turn {s : ByteArray} {a b : Nat} (h : OneK s a b) : OneK (turnS s) (89 - b) (89 - a) := by
  refine ⟨(turnS_is h.bd).1, ?_, ?_⟩
  · rw [find_turn h.bd 75 (by decide), show swapN 75 = 107 by decide, h.fb]; rfl
  · rw [find_turn h.bd 107 (by decide), show swapN 107 = 75 by decide, h.fa]; rfl
theorem oneK_of {s : ByteArray} (hs : isBoard s = true) (h1 : (findS s 75).length = 1) (h2 : (findS s 107).length = 1) : ∃ a b, OneK s a b := by
  obtain ⟨a, ha⟩ := List.length_eq_one_iff.1 h1
  obtain ⟨b, hb⟩ := List.length_eq_one_iff.1 h2
  exact ⟨a, b, hs, ha, hb⟩
theorem fac_turn {s : ByteArray} {a b : Nat} (h : OneK s a b) : facS (turnS s) = facS s := by
  obtain ⟨la, lb⟩ := h.lt
  obtain ⟨g0, g1⟩ := h.gen
  obtain ⟨t0, t1⟩ := h.turn.gen
  obtain ⟨htb, htc⟩ := turnS_is h.bd
  have hl : ∀ n, n < 90 → cel s n ∈ letters := fun n hn => board_cell h.bd hn
  have hbt : betwS (turnS s) ((89 - b : Nat) : Int) ((89 - a : Nat) : Int) = betwS s (a : Int) (b : Int) := by
    unfold betwS
    rw [if_pos ⟨htb, ⟨by omega, by omega⟩, ⟨by omega, by omega⟩⟩, if_pos ⟨h.bd, ⟨by omega, by omega⟩, ⟨by omega, by omega⟩⟩]
    simp only [Int.toNat_natCast]
    rw [betw_congr htc (by omega) (by omega), betw_turn hl lb la, betw_sym _ lb la]
  have hfl : (fileS ((89 - b : Nat) : Int) == fileS ((89 - a : Nat) : Int)) = (fileS (a : Int) == fileS (b : Int)) := by
    unfold fileS
    rw [if_pos ⟨by omega, by omega⟩, if_pos ⟨by omega, by omega⟩, if_pos ⟨by omega, by omega⟩, if_pos ⟨by omega, by omega⟩, Bool.eq_iff_iff, beq_iff_eq, beq_iff_eq]
    omega
  unfold facS
  rw [g0, g1, t0, t1, hbt, hfl, decide_eq_true (show (0 : Int) ≤ ((89 - b : Nat) : Int) by omega), decide_eq_true (show (0 : Int) ≤ ((89 - a : Nat) : Int) by omega), decide_eq_true (show (0 : Int) ≤ (a : Int) by omega), decide_eq_true (show (0 : Int) ≤ (b : Int) by omega)]
theorem in_turn {s : ByteArray} {a b : Nat} (h : OneK s a b) (x : Int) (hx : x = 0 ∨ x = 1) : inS (turnS s) (1 - x) = inS s x := by
  obtain ⟨la, lb⟩ := h.lt
  obtain ⟨g0, g1⟩ := h.gen
  obtain ⟨t0, t1⟩ := h.turn.gen
  have key : ∀ g : Nat, g < 90 → (attS (turnS s) ((89 - g : Nat) : Int) (1 - (1 - x))).length = (attS s (g : Int) (1 - x)).length := by
    intro g hg
    rw [att_turn h.bd g hg (1 - x) (by omega), List.length_reverse, List.length_map]
  unfold inS
  rcases hx with rfl | rfl
  · rw [show (1 : Int) - 0 = 1 from rfl, t1, g0]
    have := key a la
    rw [show (1 : Int) - 0 = 1 from rfl] at this
    rw [this, decide_eq_true (show (0 : Int) ≤ ((89 - a : Nat) : Int) by omega), decide_eq_true (show (0 : Int) ≤ (a : Int) by omega)]
  · rw [show (1 : Int) - 1 = 0 from rfl, t0, g1]
    have := key b lb
    rw [show (1 : Int) - 1 = 0 from rfl] at this
    rw [this, decide_eq_true (show (0 : Int) ≤ ((89 - b : Nat) : Int) by omega), decide_eq_true (show (0 : Int) ≤ (b : Int) by omega)]
theorem check_one {p : Pos} (h : checkP p = 0) : ∃ a b, OneK p.cells a b := by
  have hok : argOk p = true := by
    cases hok : argOk p
    · unfold checkP at h; rw [hok] at h; simp at h
    · rfl
  obtain ⟨hb, _⟩ := argOk_yes hok
  have hany : pieces14.any (badX p.cells) = false := by
    cases hq : pieces14.any (badX p.cells)
    · rfl
    · unfold checkP at h; rw [hok, hq] at h; simp at h
  have key : ∀ x, x ∈ pieces14 → kindN x = 75 → (findS p.cells x).length = 1 := by
    intro x hx hk
    have hb2 : badX p.cells x = false := by
      cases hq : badX p.cells x
      · rfl
      · exact absurd (List.any_eq_true.2 ⟨x, hx, hq⟩) (by rw [hany]; decide)
    unfold badX at hb2
    simp only [Bool.or_eq_false_iff, Bool.and_eq_false_iff] at hb2
    have h1 : cntX p.cells 90 x = 1 := by
      rcases hb2.2 with h2 | h2
      · rw [hk] at h2; simp at h2
      · simpa using h2
    unfold findS
    rw [if_pos hb, ← List.countP_eq_length_filter]
    unfold cntX at h1
    rw [← h1]
    refine List.countP_congr fun i _ => ?_
    simp
  exact oneK_of hb (key 75 (by decide) (by decide)) (key 107 (by decide) (by decide))
/-- What is wrong with a position, seen from the other side. -/
theorem well_turn {p : Pos} (hb : isBoard p.cells = true) (hs : p.side = 0 ∨ p.side = 1) : wellS (turnP p) = wellS p := by
  unfold wellS
  rw [check_turn' hb hs]
  by_cases hc : checkP p = 0
  · have e : ¬ (checkP p ≠ 0) := by simpa using hc
    rw [if_neg e, if_neg e]
    obtain ⟨a, b, h1⟩ := check_one hc
    rw [show (turnP p).cells = turnS p.cells from rfl, fac_turn h1, show (1 : Int) - (turnP p).side = 1 - (1 - p.side) from rfl, in_turn h1 (1 - p.side) (by omega)]
  · rw [if_pos hc, if_pos hc]
end Go.Proofs.YtgmlojocafepiaaGreatDoor.K

/- Plain law: the moves that may be made, seen from the other side. -/
namespace Go.Proofs.YtgmlojocafepiaaGreatDoor.K
open Go.RowKit Go.Lib Go.Proofs.YtgmlojocafepiaaGreatDoorW.PrintWords Go.Proofs.YtgmlojocafepiaaGreatDoor.Sp
set_option linter.unusedVariables false
set_option linter.unusedSimpArgs false
theorem board_same {s t : ByteArray} (hs : s.size = 90) (ht : t.size = 90) (h : ∀ n, n < 90 → cel s n = cel t n) : s = t := by
  apply ByteArray.ext
  apply Array.ext
  · exact hs.trans ht.symm
  · intro i h1 h2
    have h1' : i < s.size := h1
    have h2' : i < t.size := h2
    have e := h i (by omega)
    rw [← cel_get s i h1', ← cel_get t i h2'] at e
    exact UInt8.toNat_inj.1 e
theorem moved_turn {s : ByteArray} (hs : isBoard s = true) {a b : Nat} (hm : isBoard (movedB s a b) = true) (ha : a < 90) (hb : b < 90) (hab : a ≠ b) : movedB (turnS s) (89 - a) (89 - b) = turnS (movedB s a b) := by
  obtain ⟨ht, hc⟩ := turnS_is hs
  obtain ⟨ht2, hc2⟩ := turnS_is hm
  have hz := board_size hs
  have hz2 := board_size ht
  refine board_same (by rw [moved_size, hz2]) (board_size ht2) (fun n hn => ?_)
  rw [moved_cel (by omega) (by omega) (by omega), hc2 n hn]
  unfold turnC moveC setC
  rw [moved_cel (by omega) (by omega) (by omega)]
  unfold moveC setC
  by_cases h1 : n = 89 - a
  · rw [if_pos h1, if_pos (show 89 - n = a by omega)]; rfl
  · rw [if_neg h1]
    by_cases h2 : n = 89 - b
    · rw [if_pos h2, if_neg (show ¬ 89 - n = a by omega), if_pos (show 89 - n = b by omega), hc _ (by omega)]
      unfold turnC
      rw [show 89 - (89 - a) = a by omega]
    · rw [if_neg h2, if_neg (show ¬ 89 - n = a by omega), if_neg (show ¬ 89 - n = b by omega), hc n hn]; rfl
theorem flip_mem {p : Pos} (hck : checkP p = 0) {m : Mv} (hm : m ∈ gathP p (fun _ => true)) : flipM m ∈ gathP (turnP p) (fun _ => true) := by
  rw [gath_turn hck, List.mem_reverse]
  exact List.mem_map_of_mem hm
theorem may_flip {p : Pos} (hck : checkP p = 0) {m : Mv} (hm : m ∈ gathP p (fun _ => true)) : mayR (turnS p.cells) (1 - p.side) (flipM m) = mayR p.cells p.side m := by
  obtain ⟨_, h1, h2, h3, h4, _⟩ := gath_mem hm
  obtain ⟨hbd, hsd, _⟩ := argOk_yes (checkP_parts hck).1
  obtain ⟨_, hc⟩ := turnS_is hbd
  obtain ⟨_, _, _, hab, _⟩ := move_parts hck h1 h2 h3 h4
  obtain ⟨ma, mb⟩ := m
  simp only at h1 h2 h3 h4 hab
  have hk : kindN (cel (turnS p.cells) (89 - mb)) = kindN (cel p.cells mb) := by
    rw [hc _ (by omega), turnC_at _ h2, (swap_facts _ (board_cell hbd h2)).2.2.1]
  unfold mayR flipM
  simp only
  rw [hk]
  by_cases hk75 : kindN (cel p.cells mb) = 75
  · rw [hk75]; rfl
  · obtain ⟨hq, hmb, _⟩ := right_after hck h1 h2 h3 h4 hk75 0 1 (by omega) (by omega)
    obtain ⟨x, y, ho⟩ := check_one hq
    simp only at ho
    rw [moved_turn hbd hmb h1 h2 hab]
    unfold safeR
    rw [fac_turn ho, in_turn ho p.side hsd]
theorem legal_turn {p : Pos} (hb : isBoard p.cells = true) (hs : p.side = 0 ∨ p.side = 1) : legalL (turnP p) = ((legalL p).map flipM).reverse := by
  have hw := well_turn hb hs
  by_cases h : wellS p = 0
  · have hck := well_check h
    have hw0 : wellS (turnP p) = 0 := by rw [hw, h]
    have hck' := well_check hw0
    have e1 : legalL (turnP p) = (gathP (turnP p) (fun _ => true)).filter (mayR (turnS p.cells) (1 - p.side)) := by
      unfold legalL
      rw [if_pos hw0]
      exact List.filter_congr fun m hm => safe_may hck' hm
    have e2 : legalL p = (gathP p (fun _ => true)).filter (mayR p.cells p.side) := by
      unfold legalL
      rw [if_pos h]
      exact List.filter_congr fun m hm => safe_may hck hm
    rw [e1, e2, gath_turn hck, List.filter_reverse, List.filter_map]
    congr 2
    exact List.filter_congr fun m hm => may_flip hck hm
  · rw [legal_no h, legal_no (by rw [hw]; exact h)]; rfl
theorem end_turn {p : Pos} (h : wellS p = 0) : endS (turnP p) = endS p := by
  have hck := well_check h
  obtain ⟨hbd, hsd, _⟩ := argOk_yes (checkP_parts hck).1
  obtain ⟨x, y, ho⟩ := check_one hck
  rw [end_eq, end_eq, well_turn hbd hsd, legal_turn hbd hsd, List.length_reverse, List.length_map]
  have e : inS (turnP p).cells (turnP p).side = inS p.cells p.side := in_turn ho p.side hsd
  rw [e]
end Go.Proofs.YtgmlojocafepiaaGreatDoor.K

/- Plain law: a game, move by move, on and back. -/
namespace Go.Proofs.YtgmlojocafepiaaGreatDoor.K
open Go.RowKit Go.Lib Go.Proofs.YtgmlojocafepiaaGreatDoorW.PrintWords Go.Proofs.YtgmlojocafepiaaGreatDoor.Sp
set_option linter.unusedVariables false
set_option linter.unusedSimpArgs false
/-- The squares of a side's pieces. -/
def sqF (s : ByteArray) (a : Int) : Nat → Bool := fun i => sideN (cel s i) == a
theorem setF_congr {f g : Nat → Bool} (h : ∀ i, i < 90 → f i = g i) : setF f = setF g := by
  have h1 : loB f = loB g := bitsTo_congr fun i hi => h i (by omega)
  have h2 : hiB f = hiB g := bitsTo_congr fun i hi => h (45 + i) (by omega)
  show setV (loB f) (hiB f) = setV (loB g) (hiB g)
  rw [h1, h2]
theorem sq_pieces {s : ByteArray} (hs : isBoard s = true) (a : Int) (ha : 0 ≤ a) : memL (sqF s a) = piecesS s a := by
  unfold memL piecesS sqF
  rw [if_pos hs, decide_eq_true ha]
  refine List.filter_congr fun i _ => ?_
  rw [Bool.true_and, Bool.eq_iff_iff, beq_iff_eq, decide_eq_true_eq]
/-- What is needed to take a move back. -/
structure Und where
  mv : Mv
  tk : Nat
  ck : Int
  fl : Int
/-- A board ahead of a move. -/
def backB (s : ByteArray) (m : Mv) (c : Nat) : ByteArray := strOfNums (((bytesOf s).set m.1 (cel s m.2 : Int)).set m.2 (if c = 0 then 46 else (c : Int)))
theorem back_size (s : ByteArray) (m : Mv) (c : Nat) : (backB s m c).size = s.size := by
  have h : ∀ xs : List Int, (strOfNums xs).size = xs.length := fun xs => by simp [strOfNums, ByteArray.size]
  unfold backB
  rw [h, List.length_set, List.length_set, bytesOf_length]
theorem back_cel {s : ByteArray} {m : Mv} {c n : Nat} (hc : c < 256) (hb : m.2 < s.size) (hn : n < s.size) : cel (backB s m c) n = if n = m.2 then (if c = 0 then 46 else c) else if n = m.1 then cel s m.2 else cel s n := by
  have hl : (((bytesOf s).set m.1 (cel s m.2 : Int)).set m.2 (if c = 0 then 46 else (c : Int))).length = s.size := by rw [List.length_set, List.length_set, bytesOf_length]
  have hg : (((bytesOf s).set m.1 (cel s m.2 : Int)).set m.2 (if c = 0 then 46 else (c : Int)))[n]'(by omega) = ((if n = m.2 then (if c = 0 then 46 else c) else if n = m.1 then cel s m.2 else cel s n : Nat) : Int) := by
    rw [List.getElem_set]
    by_cases h1 : n = m.2
    · rw [if_pos h1.symm, if_pos h1]; split <;> rfl
    · rw [if_neg (Ne.symm h1), if_neg h1, List.getElem_set]
      by_cases h2 : n = m.1
      · rw [if_pos h2.symm, if_pos h2]
      · rw [if_neg (Ne.symm h2), if_neg h2]
        have := bytes_getD s n hn
        rw [List.getD_eq_getElem?_getD, List.getElem?_eq_getElem (by rw [bytesOf_length]; exact hn)] at this
        exact this
  have hlt : (if n = m.2 then (if c = 0 then 46 else c) else if n = m.1 then cel s m.2 else cel s n) < 256 := by
    split
    · split <;> omega
    · split <;> exact cel_lt _ _
  unfold backB
  rw [cel_nums _ n (by omega) (by rw [hg]; omega), hg]
  simp
/-- What is known of a move that may be made. -/
structure OkMv (p q : Pos) (m : Mv) (c : Nat) : Prop where
  bd : isBoard p.cells = true
  a90 : m.1 < 90
  b90 : m.2 < 90
  ne : m.1 ≠ m.2
  qc : q.cells = movedB p.cells m.1 m.2
  qs : q.side = 1 - p.side
  sd : p.side = 0 ∨ p.side = 1
  own : sideN (cel p.cells m.1) = p.side
  oth : sideN (cel p.cells m.2) ≠ p.side
  tk : c = if cel p.cells m.2 = 46 then 0 else cel p.cells m.2
  wq : wellS q = 0
theorem okMv {p q : Pos} {m : Mv} {c : Nat} (hw : wellS p = 0) (hs : safeS p (mviOf m) = true) (hm : makeP p (mviOf m) = (q, c, 0)) : OkMv p q m c := by
  have hck := well_check hw
  have hgd := safe_is_good hck hs
  obtain ⟨⟨f0, f1⟩, ⟨g0, g1⟩, h1, h2, h3⟩ := (ok_good hck).1 hgd
  simp only [Int.toNat_natCast] at h1 h2 h3 f0 f1 g0 g1
  obtain ⟨hbd, hsd, _⟩ := argOk_yes (checkP_board hck)
  have hb : m.2 < 90 := by omega
  have ha : m.1 < 90 := by omega
  obtain ⟨_, _, _, hab, _⟩ := move_parts hck ha hb h1 h2
  have hat : atS p.cells (m.2 : Int) = cel p.cells m.2 := by unfold atS; rw [if_pos ⟨hbd, by omega, by omega⟩]; rfl
  rw [make_ok hw hs, apply_good hck hgd] at hm
  simp only [Prod.mk.injEq] at hm
  obtain ⟨rfl, hc, _⟩ := hm
  rw [hat] at hc
  unfold fastN at h2
  simp only [Bool.and_eq_true, bne_iff_ne, ne_eq, decide_eq_true_eq] at h2
  refine ⟨hbd, ha, hb, hab, rfl, rfl, hsd, h1, ?_, hc.symm, ?_⟩
  · rw [← h1]; exact h2.1.2
  · unfold safeS at hs
    rw [apply_good hck hgd] at hs
    simp only [Bool.and_eq_true, beq_iff_eq] at hs
    exact hs.2
theorem OkMv.c_lt {p q : Pos} {m : Mv} {c : Nat} (h : OkMv p q m c) : c < 256 := by
  rw [h.tk]; split
  · omega
  · exact cel_lt _ _
theorem OkMv.qcel {p q : Pos} {m : Mv} {c : Nat} (h : OkMv p q m c) {n : Nat} (hn : n < 90) : cel q.cells n = moveC (cel p.cells) m.1 m.2 n := by
  have hz := board_size h.bd
  have := h.a90
  have := h.b90
  rw [h.qc, moved_cel (by omega) (by omega) (by omega)]
theorem OkMv.qbd {p q : Pos} {m : Mv} {c : Nat} (h : OkMv p q m c) : isBoard q.cells = true := by rw [h.qc]; exact moved_board h.bd h.a90 h.b90
theorem OkMv.back {p q : Pos} {m : Mv} {c : Nat} (h : OkMv p q m c) : backB q.cells m c = p.cells := by
  have hz := board_size h.bd
  have hz2 := board_size h.qbd
  have ha := h.a90
  have hb := h.b90
  have hne := h.ne
  refine board_same (by rw [back_size, hz2]) hz (fun n hn => ?_)
  rw [back_cel h.c_lt (by omega) (by omega)]
  by_cases h1 : n = m.2
  · rw [if_pos h1, h1, h.tk]
    by_cases h46 : cel p.cells m.2 = 46
    · rw [if_pos h46, if_pos rfl, h46]
    · have h0 : cel p.cells m.2 ≠ 0 := by
        have hl : ∀ x ∈ letters, x ≠ 0 := by decide
        exact hl _ (board_cell h.bd hb)
      rw [if_neg h46, if_neg h0]
  · rw [if_neg h1]
    by_cases h2 : n = m.1
    · rw [if_pos h2, h.qcel hb, h2]
      unfold moveC setC
      rw [if_neg (Ne.symm hne), if_pos rfl]
    · rw [if_neg h2, h.qcel hn]
      unfold moveC setC
      rw [if_neg h2, if_neg h1]
theorem OkMv.set_own {p q : Pos} {m : Mv} {c : Nat} (h : OkMv p q m c) : setF (putF (cutF (sqF p.cells p.side) m.1) m.2) = setF (sqF q.cells p.side) := by
  refine setF_congr fun i hi => ?_
  have hne := h.ne
  have hsd := h.sd
  unfold putF cutF sqF
  rw [h.qcel hi]
  unfold moveC setC
  by_cases h1 : i = m.1
  · rw [if_pos h1, h1]
    have e : (m.1 == m.2) = false := beq_eq_false_iff_ne.2 hne
    have e2 : (sideN 46 == p.side) = false := by rw [beq_eq_false_iff_ne, show sideN 46 = -1 from by decide]; omega
    rw [e, e2]; simp
  · rw [if_neg h1]
    have e1 : (i == m.1) = false := beq_eq_false_iff_ne.2 h1
    rw [e1]
    by_cases h2 : i = m.2
    · rw [if_pos h2, h2, h.own]; simp
    · have e2 : (i == m.2) = false := beq_eq_false_iff_ne.2 h2
      rw [if_neg h2, e2]; simp
theorem OkMv.set_oth {p q : Pos} {m : Mv} {c : Nat} (h : OkMv p q m c) : setF (cutF (sqF p.cells (1 - p.side)) m.2) = setF (sqF q.cells (1 - p.side)) := by
  refine setF_congr fun i hi => ?_
  have hne := h.ne
  have hsd := h.sd
  unfold cutF sqF
  rw [h.qcel hi]
  unfold moveC setC
  by_cases h1 : i = m.1
  · rw [if_pos h1, h1, h.own]
    have e2 : (sideN 46 == 1 - p.side) = false := by rw [beq_eq_false_iff_ne, show sideN 46 = -1 from by decide]; omega
    have e3 : (p.side == 1 - p.side) = false := by rw [beq_eq_false_iff_ne]; omega
    rw [e2, e3]; rfl
  · rw [if_neg h1]
    by_cases h2 : i = m.2
    · rw [if_pos h2, h2, h.own]
      have e3 : (p.side == 1 - p.side) = false := by rw [beq_eq_false_iff_ne]; omega
      rw [e3]; simp
    · have e2 : (i == m.2) = false := beq_eq_false_iff_ne.2 h2
      rw [if_neg h2, e2]; simp
theorem OkMv.back_own {p q : Pos} {m : Mv} {c : Nat} (h : OkMv p q m c) : setF (putF (cutF (sqF q.cells p.side) m.2) m.1) = setF (sqF p.cells p.side) := by
  refine setF_congr fun i hi => ?_
  have hne := h.ne
  have hsd := h.sd
  unfold putF cutF sqF
  rw [h.qcel hi]
  unfold moveC setC
  by_cases h1 : i = m.1
  · rw [h1, h.own]; simp
  · have e1 : (i == m.1) = false := beq_eq_false_iff_ne.2 h1
    rw [if_neg h1, e1]
    by_cases h2 : i = m.2
    · have e3 : (sideN (cel p.cells m.2) == p.side) = false := by rw [beq_eq_false_iff_ne]; exact h.oth
      rw [if_pos h2, h2, e3]; simp
    · have e2 : (i == m.2) = false := beq_eq_false_iff_ne.2 h2
      rw [if_neg h2, e2]; simp
theorem OkMv.back_oth {p q : Pos} {m : Mv} {c : Nat} (h : OkMv p q m c) : (c = 0 → setF (sqF q.cells (1 - p.side)) = setF (sqF p.cells (1 - p.side))) ∧ (c ≠ 0 → setF (putF (sqF q.cells (1 - p.side)) m.2) = setF (sqF p.cells (1 - p.side))) := by
  have hne := h.ne
  have hsd := h.sd
  have e46 : (sideN 46 == 1 - p.side) = false := by rw [beq_eq_false_iff_ne, show sideN 46 = -1 from by decide]; omega
  have e3 : (p.side == 1 - p.side) = false := by rw [beq_eq_false_iff_ne]; omega
  have hl0 : cel p.cells m.2 ≠ 0 := by
    have hl : ∀ x ∈ letters, x ≠ 0 := by decide
    exact hl _ (board_cell h.bd h.b90)
  constructor
  · intro hc
    have h46 : cel p.cells m.2 = 46 := by
      have := h.tk
      rw [hc] at this
      by_cases h46 : cel p.cells m.2 = 46
      · exact h46
      · rw [if_neg h46] at this; exact absurd this.symm hl0
    refine setF_congr fun i hi => ?_
    unfold sqF
    rw [h.qcel hi]
    unfold moveC setC
    by_cases h1 : i = m.1
    · rw [if_pos h1, h1, h.own, e46, e3]
    · rw [if_neg h1]
      by_cases h2 : i = m.2
      · rw [if_pos h2, h2, h.own, h46, e46, e3]
      · rw [if_neg h2]
  · intro hc
    have h46 : cel p.cells m.2 ≠ 46 := by
      intro h46
      have := h.tk
      rw [if_pos h46] at this
      exact hc this
    have hso : sideN (cel p.cells m.2) = 1 - p.side := by
      rcases letter_side _ (board_cell h.bd h.b90) with ⟨h1, _⟩ | ⟨_, h1⟩ | ⟨_, h1⟩
      · exact absurd h1 h46
      · have := h.oth; omega
      · have := h.oth; omega
    refine setF_congr fun i hi => ?_
    unfold putF sqF
    rw [h.qcel hi]
    unfold moveC setC
    by_cases h1 : i = m.1
    · have e1 : (i == m.2) = false := by rw [h1]; exact beq_eq_false_iff_ne.2 hne
      rw [if_pos h1, e1, h1, h.own, e46, e3]; rfl
    · rw [if_neg h1]
      by_cases h2 : i = m.2
      · rw [h2, hso]; simp
      · have e2 : (i == m.2) = false := beq_eq_false_iff_ne.2 h2
        rw [if_neg h2, e2]; simp
/-- Positions that a game was at, what is needed to go back, and where it is now. -/
inductive Plays : List Pos → List Und → Pos → Prop
  | nil (p : Pos) : wellS p = 0 → Plays [] [] p
  | snoc {ps : List Pos} {us : List Und} {p q : Pos} {u : Und} : Plays ps us p → wellS p = 0 → safeS p (mviOf u.mv) = true → makeP p (mviOf u.mv) = (q, u.tk, 0) → u.ck = p.clock → u.fl = p.full → Plays (ps ++ [p]) (us ++ [u]) q
theorem Plays.well {ps : List Pos} {us : List Und} {p : Pos} (h : Plays ps us p) : wellS p = 0 := by
  cases h with
  | nil _ h => exact h
  | snoc _ h1 h2 h3 _ _ => exact (okMv h1 h2 h3).wq
theorem Plays.pop {ps : List Pos} {us : List Und} {q : Pos} {u : Und} (h : Plays ps (us ++ [u]) q) : ∃ ps' p, ps = ps' ++ [p] ∧ Plays ps' us p ∧ OkMv p q u.mv u.tk ∧ u.ck = p.clock ∧ u.fl = p.full := by
  generalize hx : us ++ [u] = x at h
  cases h with
  | nil _ _ => simp at hx
  | snoc h1 h2 h3 h4 h5 h6 =>
    obtain ⟨e1, e2⟩ := List.append_inj' hx rfl
    simp only [List.cons.injEq, and_true] at e2
    subst e1 e2
    exact ⟨_, _, rfl, h1, okMv h2 h3 h4, h5, h6⟩
theorem Plays.len {ps : List Pos} {us : List Und} {q : Pos} (h : Plays ps us q) : ps.length = us.length := by
  induction h with
  | nil => rfl
  | snoc _ _ _ _ _ _ ih => simp [ih]
end Go.Proofs.YtgmlojocafepiaaGreatDoor.K

/- Worlds that keep all but some blocks; a game in memory. -/
namespace Go.Proofs.YtgmlojocafepiaaGreatDoor.K
open Go.RowKit Go.Lib Go.Proofs.YtgmlojocafepiaaGreatDoorW.PrintWords Go.Proofs.YtgmlojocafepiaaGreatDoor.Sp
set_option linter.unusedVariables false
set_option linter.unusedSimpArgs false
/-- All that was there is there still, but for the blocks of S. -/
structure Ken (S : Nat → Prop) (w w' : World) : Prop where
  b0 : Below 0 w w'
  block : ∀ k, k < w.heap.size → ¬ S k → w'.heap[k]? = w.heap[k]?
section
variable {S T : Nat → Prop} {w w' w2 : World}
theorem Ken.refl (S : Nat → Prop) (w : World) : Ken S w w := ⟨Below.refl _ _, fun _ _ _ => rfl⟩
theorem Ken.size (h : Ken S w w') : w.heap.size ≤ w'.heap.size := h.b0.size
theorem Ken.trans (h : Ken S w w') (k : Ken T w' w2) (hs : ∀ j, T j → S j ∨ w.heap.size ≤ j) : Ken S w w2 :=
  ⟨h.b0.trans k.b0, fun i hi hn => (k.block i (Nat.lt_of_lt_of_le hi h.size) (fun h2 => (hs i h2).elim hn (fun h3 => by omega))).trans (h.block i hi hn)⟩
theorem Ken.of_below (hb : Below w.heap.size w w') (S : Nat → Prop) : Ken S w w' := ⟨hb.mono (Nat.zero_le _), fun k hk _ => hb.block k hk⟩
theorem Ken.below (h : Ken S w w') (hb : Below w'.heap.size w' w2) : Ken S w w2 := h.trans (Ken.of_below hb (fun _ => False)) (fun _ hk => hk.elim)
theorem Ken.setCell (h : Ken S w w') {p : Addr} (hp : S p.block ∨ w.heap.size ≤ p.block) (u : Value) : Ken S w (w'.setCell p u) :=
  h.trans (T := fun k => k = p.block) ⟨(Below.refl 0 w').setCell (Nat.zero_le _) u, fun i _ hn => Below.heap_setCell w' p u i hn⟩ (fun k hk => by rw [hk]; exact hp)
theorem Ken.grown (h : Ken S w w') {row : Option Nat} (hg : w'.grownBy w2 row) (hr : ∀ k, row = some k → S k ∨ w.heap.size ≤ k) : Ken S w w2 :=
  h.trans (T := fun k => row = some k) ⟨(Below.refl 0 w').grown hg (Nat.zero_le _) (fun _ _ => Nat.zero_le _), fun i hi hn => hg.block i hi (fun he => hn he.symm)⟩ hr
theorem Ken.toBelow (h : Ken S w w') {B : Nat} (hB : B ≤ w.heap.size) (hs : ∀ k, S k → B ≤ k) : Below B w w' :=
  ⟨h.b0.os, h.b0.tape, h.b0.output, h.size, fun k hk => h.block k (by omega) (fun h2 => by have := hs k h2; omega)⟩
theorem Ken.cell (h : Ken S w w') {g o : Nat} {v : Value} (hc : w.cell? ⟨g, o, none⟩ = some v) (hn : ¬ S g) : w'.cell? ⟨g, o, none⟩ = some v :=
  (World.cell?_of_block (w := w) (h.block g (World.block_lt_of_cell? w ⟨g, o, none⟩ hc) hn)).trans hc
theorem Ken.free (h : Ken S w w') {g o : Nat} (hlt : g < w.heap.size) (hn : ¬ S g) : w'.frozen? ⟨g, o, none⟩ = w.frozen? ⟨g, o, none⟩ :=
  World.frozen?_of_block (w := w) (h.block g hlt hn)
theorem Ken.mono (h : Ken S w w') (hs : ∀ k, S k → T k) : Ken T w w' := ⟨h.b0, fun k hk hn => h.block k hk (fun h2 => hn (hs k h2))⟩
theorem Ken.row (h : Ken S w w') {base : Nat} {e : TypeId} {size n : Nat} {v : Value} {xs : List Value} (ho : w.ownsRow base e size v n xs) (hn : ∀ k, v.ownBlock = some k → ¬ S k) : w'.ownsRow base e size v n xs := by
  obtain ⟨h1, h2 | ⟨g, cap, cur, hv, hb, hh, r⟩⟩ := ho
  · exact ⟨h1, .inl h2⟩
  · exact ⟨h1, .inr ⟨g, cap, cur, hv, hb, by rw [h.block g (blk_lt hh) (hn g (by rw [hv]; rfl))]; exact hh, r⟩⟩
end
/-- One undo's cells. -/
def undC (u : Und) : List Value := [.int .i64 (u.mv.1 : Int), .int .i64 (u.mv.2 : Int), .int .u8 (u.tk : Int), .int .i64 u.ck, .int .i64 u.fl]
def flatU (l : List Und) : List Value := l.flatMap undC
theorem flatU_len (l : List Und) : (flatU l).length = l.length * 5 := by
  induction l with
  | nil => rfl
  | cons x r ih => simp only [flatU, List.flatMap_cons, List.length_append, List.length_cons] at *; simp [undC, ih]; omega
theorem flatU_append (l : List Und) (x : Und) : flatU (l ++ [x]) = flatU l ++ undC x := by simp [flatU]
theorem flatU_get (l : List Und) (i j : Nat) (hi : i < l.length) (hj : j < 5) : (flatU l)[i * 5 + j]? = (undC l[i])[j]? := by
  induction l generalizing i with
  | nil => simp at hi
  | cons x r ih =>
    have hl : (undC x).length = 5 := rfl
    cases i with
    | zero =>
      simp only [flatU, List.flatMap_cons]
      rw [List.getElem?_append_left (by rw [hl]; omega)]
      simp
    | succ i =>
      simp only [flatU, List.flatMap_cons]
      rw [List.getElem?_append_right (by rw [hl]; omega), hl, show (i + 1) * 5 + j - 5 = i * 5 + j by omega]
      exact ih i (by simpa using hi)
theorem flatU_take (l : List Und) (i : Nat) : (flatU l).take (i * 5) = flatU (l.take i) := by
  induction l generalizing i with
  | nil => simp [flatU]
  | cons x r ih =>
    cases i with
    | zero => simp [flatU]
    | succ i =>
      have := ih i
      simp only [flatU, List.flatMap_cons, List.take_succ_cons] at this ⊢
      rw [← this, show (i + 1) * 5 = i * 5 + 1 + 1 + 1 + 1 + 1 by omega]
      simp [undC]
/-- A position's box within another. -/
structure BoxO (W : World) (b o : Nat) (p : Pos) : Prop where
  c0 : W.cell? ⟨b, o, none⟩ = some (.string p.cells)
  c1 : W.cell? ⟨b, o + 1, none⟩ = some (.int .i64 p.side)
  c2 : W.cell? ⟨b, o + 2, none⟩ = some (.int .i64 p.clock)
  c3 : W.cell? ⟨b, o + 3, none⟩ = some (.int .i64 p.full)
/-- A game in memory: its block gb, its past's block pb, its stack sv, the four words of its sets; all of them blocks of S. -/
structure GmZ (W : World) (S : Nat → Prop) (gb pb : Nat) (sv : Value) (now : Pos) (a b c d : Nat) (us : List Und) : Prop where
  g0 : W.cell? ⟨gb, 0, none⟩ = some (.pointer (some ⟨pb, 0, none⟩))
  g1 : W.cell? ⟨gb, 1, none⟩ = some (.string now.cells)
  g2 : W.cell? ⟨gb, 2, none⟩ = some (.int .i64 now.side)
  g3 : W.cell? ⟨gb, 3, none⟩ = some (.int .i64 now.clock)
  g4 : W.cell? ⟨gb, 4, none⟩ = some (.int .i64 now.full)
  g5 : W.cell? ⟨gb, 5, none⟩ = some (.int .u64 (a : Int))
  g6 : W.cell? ⟨gb, 6, none⟩ = some (.int .u64 (b : Int))
  g7 : W.cell? ⟨gb, 7, none⟩ = some (.int .u64 (c : Int))
  g8 : W.cell? ⟨gb, 8, none⟩ = some (.int .u64 (d : Int))
  gf : ∀ k, W.frozen? ⟨gb, k, none⟩ = false
  p0 : W.cell? ⟨pb, 0, none⟩ = some sv
  pf : ∀ k, W.frozen? ⟨pb, k, none⟩ = false
  row : W.ownsRow 0 93 5 sv us.length (flatU us)
  ne : gb ≠ pb
  far : ∀ k, sv.ownBlock = some k → k ≠ gb ∧ k ≠ pb ∧ S k
  sg : S gb
  sp : S pb
/-- .. whose sets are those of its position. -/
abbrev GmX (W : World) (S : Nat → Prop) (gb pb : Nat) (sv : Value) (now : Pos) (us : List Und) : Prop :=
  GmZ W S gb pb sv now (loB (sqF now.cells 0)) (hiB (sqF now.cells 0)) (loB (sqF now.cells 1)) (hiB (sqF now.cells 1)) us
section
variable {W W' : World} {S T : Nat → Prop} {gb pb : Nat} {sv : Value} {now : Pos} {a b c d : Nat} {us : List Und}
theorem GmZ.lt (h : GmZ W S gb pb sv now a b c d us) : gb < W.heap.size ∧ pb < W.heap.size :=
  ⟨World.block_lt_of_cell? W ⟨gb, 0, none⟩ h.g0, World.block_lt_of_cell? W ⟨pb, 0, none⟩ h.p0⟩
theorem GmZ.ken (h : GmZ W S gb pb sv now a b c d us) (hk : Ken T W W') (hst : ∀ k, S k → ¬ T k) : GmZ W' S gb pb sv now a b c d us := by
  have n1 := hst gb h.sg
  have n2 := hst pb h.sp
  exact ⟨hk.cell h.g0 n1, hk.cell h.g1 n1, hk.cell h.g2 n1, hk.cell h.g3 n1, hk.cell h.g4 n1, hk.cell h.g5 n1, hk.cell h.g6 n1, hk.cell h.g7 n1, hk.cell h.g8 n1, fun k => (hk.free h.lt.1 n1).trans (h.gf k), hk.cell h.p0 n2, fun k => (hk.free h.lt.2 n2).trans (h.pf k), hk.row h.row (fun k he => hst k (h.far k he).2.2), h.ne, h.far, h.sg, h.sp⟩
theorem GmZ.below (h : GmZ W S gb pb sv now a b c d us) (hb : Below W.heap.size W W') : GmZ W' S gb pb sv now a b c d us :=
  h.ken (Ken.of_below hb (fun _ => False)) (fun _ _ hk => hk)
theorem GmZ.drew (h : GmZ W S gb pb sv now a b c d us) : GmZ W.drew S gb pb sv now a b c d us := h.below (pw_below_drewN (Below.refl _ _) 1)
theorem GmZ.mono (h : GmZ W S gb pb sv now a b c d us) (hs : ∀ k, S k → T k) : GmZ W T gb pb sv now a b c d us :=
  ⟨h.g0, h.g1, h.g2, h.g3, h.g4, h.g5, h.g6, h.g7, h.g8, h.gf, h.p0, h.pf, h.row, h.ne, fun k he => ⟨(h.far k he).1, (h.far k he).2.1, hs k (h.far k he).2.2⟩, hs _ h.sg, hs _ h.sp⟩
/-- Another position is laid. -/
theorem GmZ.setNow (h : GmZ W S gb pb sv now a b c d us) (q : Pos) : GmZ ((((W.setCell ⟨gb, 1, none⟩ (.string q.cells)).setCell ⟨gb, 2, none⟩ (.int .i64 q.side)).setCell ⟨gb, 3, none⟩ (.int .i64 q.clock)).setCell ⟨gb, 4, none⟩ (.int .i64 q.full)) S gb pb sv q a b c d us := by
  have hne := h.ne
  have hne' := Ne.symm h.ne
  have hk : Ken (fun k => k = gb) W ((((W.setCell ⟨gb, 1, none⟩ (.string q.cells)).setCell ⟨gb, 2, none⟩ (.int .i64 q.side)).setCell ⟨gb, 3, none⟩ (.int .i64 q.clock)).setCell ⟨gb, 4, none⟩ (.int .i64 q.full)) :=
    ((((Ken.refl (fun k => k = gb) W).setCell (p := ⟨gb, 1, none⟩) (.inl rfl) _).setCell (p := ⟨gb, 2, none⟩) (.inl rfl) _).setCell (p := ⟨gb, 3, none⟩) (.inl rfl) _).setCell (p := ⟨gb, 4, none⟩) (.inl rfl) _
  exact ⟨by simp [go_sem, h.g0], by simp [go_sem, h.g1], by simp [go_sem, h.g2], by simp [go_sem, h.g3], by simp [go_sem, h.g4], by simp [go_sem, h.g5], by simp [go_sem, h.g6], by simp [go_sem, h.g7], by simp [go_sem, h.g8], fun k => by simp [go_sem, h.gf], hk.cell h.p0 hne', fun k => by simp [go_sem, h.pf], hk.row h.row (fun k he hg => (h.far k he).1 hg), h.ne, h.far, h.sg, h.sp⟩
/-- Another set of red's. -/
theorem GmZ.setRed (h : GmZ W S gb pb sv now a b c d us) (x y : Nat) : GmZ ((W.setCell ⟨gb, 5, none⟩ (.int .u64 (x : Int))).setCell ⟨gb, 6, none⟩ (.int .u64 (y : Int))) S gb pb sv now x y c d us := by
  have hne := h.ne
  have hne' := Ne.symm h.ne
  have hk : Ken (fun k => k = gb) W ((W.setCell ⟨gb, 5, none⟩ (.int .u64 (x : Int))).setCell ⟨gb, 6, none⟩ (.int .u64 (y : Int))) :=
    ((Ken.refl (fun k => k = gb) W).setCell (p := ⟨gb, 5, none⟩) (.inl rfl) _).setCell (p := ⟨gb, 6, none⟩) (.inl rfl) _
  exact ⟨by simp [go_sem, h.g0], by simp [go_sem, h.g1], by simp [go_sem, h.g2], by simp [go_sem, h.g3], by simp [go_sem, h.g4], by simp [go_sem, h.g5], by simp [go_sem, h.g6], by simp [go_sem, h.g7], by simp [go_sem, h.g8], fun k => by simp [go_sem, h.gf], hk.cell h.p0 hne', fun k => by simp [go_sem, h.pf], hk.row h.row (fun k he hg => (h.far k he).1 hg), h.ne, h.far, h.sg, h.sp⟩
/-- .. of black's. -/
theorem GmZ.setBlack (h : GmZ W S gb pb sv now a b c d us) (x y : Nat) : GmZ ((W.setCell ⟨gb, 7, none⟩ (.int .u64 (x : Int))).setCell ⟨gb, 8, none⟩ (.int .u64 (y : Int))) S gb pb sv now a b x y us := by
  have hne := h.ne
  have hne' := Ne.symm h.ne
  have hk : Ken (fun k => k = gb) W ((W.setCell ⟨gb, 7, none⟩ (.int .u64 (x : Int))).setCell ⟨gb, 8, none⟩ (.int .u64 (y : Int))) :=
    ((Ken.refl (fun k => k = gb) W).setCell (p := ⟨gb, 7, none⟩) (.inl rfl) _).setCell (p := ⟨gb, 8, none⟩) (.inl rfl) _
  exact ⟨by simp [go_sem, h.g0], by simp [go_sem, h.g1], by simp [go_sem, h.g2], by simp [go_sem, h.g3], by simp [go_sem, h.g4], by simp [go_sem, h.g5], by simp [go_sem, h.g6], by simp [go_sem, h.g7], by simp [go_sem, h.g8], fun k => by simp [go_sem, h.gf], hk.cell h.p0 hne', fun k => by simp [go_sem, h.pf], hk.row h.row (fun k he hg => (h.far k he).1 hg), h.ne, h.far, h.sg, h.sp⟩
/-- Another stack. -/
theorem GmZ.setStack (h : GmZ W S gb pb sv now a b c d us) (sv2 : Value) (us2 : List Und) (hr : W.ownsRow 0 93 5 sv2 us2.length (flatU us2)) (hf : ∀ k, sv2.ownBlock = some k → k ≠ gb ∧ k ≠ pb ∧ S k) : GmZ (W.setCell ⟨pb, 0, none⟩ sv2) S gb pb sv2 now a b c d us2 := by
  have hne := h.ne
  have hne' := Ne.symm h.ne
  have hk : Ken (fun k => k = pb) W (W.setCell ⟨pb, 0, none⟩ sv2) := (Ken.refl (fun k => k = pb) W).setCell (p := ⟨pb, 0, none⟩) (.inl rfl) _
  exact ⟨hk.cell h.g0 hne, hk.cell h.g1 hne, hk.cell h.g2 hne, hk.cell h.g3 hne, hk.cell h.g4 hne, hk.cell h.g5 hne, hk.cell h.g6 hne, hk.cell h.g7 hne, hk.cell h.g8 hne, fun k => by simp [go_sem, h.gf], by simp [go_sem, h.p0], fun k => by simp [go_sem, h.pf], hk.row hr (fun k he hg => (hf k he).2.1 hg), h.ne, hf, h.sg, h.sp⟩
end
/-- The stack that lies at a block: its cells are read. -/
theorem und_cells {W : World} {B b n cap : Nat} {xs : List Und} (h : W.ownsRow B 93 5 (.slice (some ⟨b, 0, none⟩) n cap) n (flatU xs)) (i : Nat) (hi : i < xs.length) :
    W.cell? ⟨b, i * 5, none⟩ = some (.int .i64 (xs[i].mv.1 : Int)) ∧ W.cell? ⟨b, i * 5 + 1, none⟩ = some (.int .i64 (xs[i].mv.2 : Int)) ∧ W.cell? ⟨b, i * 5 + 2, none⟩ = some (.int .u8 (xs[i].tk : Int)) ∧ W.cell? ⟨b, i * 5 + 3, none⟩ = some (.int .i64 xs[i].ck) ∧ W.cell? ⟨b, i * 5 + 4, none⟩ = some (.int .i64 xs[i].fl) := by
  have key : ∀ j v, j < 5 → (undC xs[i])[j]? = some v → W.cell? ⟨b, i * 5 + j, none⟩ = some v := by
    intro j v hj hv
    have hc := h.cells (g := b) rfl (i * 5 + j) v (by rw [flatU_get xs i j hi hj]; exact hv)
    rwa [add_plain] at hc
  exact ⟨key 0 _ (by omega) rfl, key 1 _ (by omega) rfl, key 2 _ (by omega) rfl, key 3 _ (by omega) rfl, key 4 _ (by omega) rfl⟩
/-- One off the stack. -/
theorem und_pop {W : World} {base b cap n : Nat} {xs : List Und} (h : W.ownsRow base 93 5 (.slice (some ⟨b, 0, none⟩) n cap) n (flatU xs)) (i : Nat) (hi : i ≤ n) :
    W.ownsRow base 93 5 (.slice (some ⟨b, 0, none⟩) i cap) i (flatU (xs.take i)) := by
  obtain ⟨hl, h⟩ := h
  have hxl : xs.length = n := by rw [flatU_len] at hl; omega
  refine ⟨by rw [flatU_len, List.length_take]; congr 1; omega, ?_⟩
  rcases h with ⟨h, _⟩ | ⟨g, c, cur, h1, h2, h3, h4, h5, h6, h7⟩
  · cases h
  · injection h1 with a1 a2 a3
    injection a1 with a1
    injection a1 with a1
    subst a1 a3
    refine .inr ⟨b, cap, cur, rfl, h2, h3, by omega, h5, h6, ?_⟩
    rw [← flatU_take, ← h7, List.take_take]
    congr 1
    omega
theorem row_form {W : World} {B : Nat} {e : TypeId} {size n : Nat} {v : Value} {xs : List Value} (h : W.ownsRow B e size v n xs) : ∃ A cap, v = .slice A n cap := by
  obtain ⟨h1, ⟨h2, h3⟩ | ⟨g, cap, cur, h2, h3, h4⟩⟩ := h
  · exact ⟨none, 0, by rw [h2, h3]⟩
  · exact ⟨_, _, h2⟩
theorem row_at {W : World} {B : Nat} {e : TypeId} {size n : Nat} {v : Value} {xs : List Value} (h : W.ownsRow B e size v n xs) (hn : 0 < n) : ∃ g cap, v = .slice (some ⟨g, 0, none⟩) n cap ∧ g < W.heap.size := by
  obtain ⟨h1, ⟨h2, h3⟩ | ⟨g, cap, cur, h2, h3, h4, _⟩⟩ := h
  · omega
  · exact ⟨g, cap, h2, blk_lt h4⟩
end Go.Proofs.YtgmlojocafepiaaGreatDoor.K

/- Walks: the reference's Ints. -/
namespace Go.Proofs.YtgmlojocafepiaaGreatDoor.K
open Go.RowKit Go.Lib Go.Proofs.YtgmlojocafepiaaGreatDoorW.PrintWords Go.Proofs.YtgmlojocafepiaaGreatDoor.Sp
set_option linter.unusedVariables false
set_option linter.unusedSimpArgs false
/-- Numbers that are read. -/
structure ReadsI (W : World) (A : Option Addr) (l : List Nat) : Prop where mk ::
  out : l = [] ∨ ∃ g o, A = some ⟨g, o, none⟩ ∧ ∀ i (h : i < l.length), W.cell? ⟨g, o + i, none⟩ = some (.int .i64 (l[i] : Int))
theorem ReadsI.below {W W' : World} {A : Option Addr} {l : List Nat} (h : ReadsI W A l) (hb : Below W.heap.size W W') : ReadsI W' A l :=
  ⟨h.out.imp id fun ⟨g, o, h1, h2⟩ => ⟨g, o, h1, fun i hi => (hb.cell (p := ⟨g, o + i, none⟩) (World.block_lt_of_cell? W _ (h2 i hi))).trans (h2 i hi)⟩⟩
theorem IntsAt.reads {W : World} {B : Nat} {v : Value} {l : List Nat} (h : IntsAt W B v l) : ∃ A cap, v = .slice A l.length cap ∧ ReadsI W A l := by
  obtain ⟨A, cap, hv, _, hx⟩ := h.out
  exact ⟨A, cap, hv, ⟨hx.imp id fun ⟨g, h1, _, _, h4⟩ => ⟨g, 0, h1, fun i hi => by rw [Nat.zero_add]; exact h4 i hi⟩⟩⟩
set_option maxRecDepth 100000 in
set_option maxHeartbeats 2000000 in
theorem intsr_c (W : World) (A1 A2 : Option Addr) (l1 l2 : List Nat) (c1 c2 : Nat) (h1 : ReadsI W A1 l1) (h2 : ReadsI W A2 l2) (hl1 : l1.length ≤ 1000000) (hl2 : l2.length ≤ 1000000) :
    Calls Tryz.prog 32 #[.slice A1 l1.length c1, .slice A2 l2.length c2] W fun e w' => e = .returned (.bool (decide (l1 = l2))) ∧ Below W.heap.size W w' := by
  have H1 := Aside0.mk h1
  have H2 := Aside0.mk h2
  have HB := Aside0.mk (Below.refl W.heap.size W)
  have k1 : (l1.length : Int) ≤ 1000000 := by omega
  have k2 : (l2.length : Int) ≤ 1000000 := by omega
  clear h1 h2
  cases hq : (l1.length == l2.length) with
  | false =>
    have q : (((l1.length : Nat) : Int) != ((l2.length : Nat) : Int)) = true := by rw [bne_iff_ne]; have := beq_eq_false_iff_ne.1 hq; omega
    have HE := Aside0.mk (show decide (l1 = l2) = false from decide_eq_false (fun h => by rw [h] at hq; simp at hq))
    have HQ := Aside0.mk (show l1.length ≠ l2.length from beq_eq_false_iff_ne.1 hq)
    clear hl1 hl2 hq
    generalize l1.length = n1 at *
    generalize l2.length = n2 at *
    go_enter Tryz.func32, Tryz.ntmps32
    go_wp2_with fail
    all_goals first
      | (go_ret; exact ⟨ret_bool HE.out.symm, HB.out⟩)
      | (exfalso; exact HQ.out (by omega))
      | (exfalso; omega)
  | true =>
    have hq := beq_iff_eq.1 hq
    have HE := Aside0.mk (show decide (l1 = l2) = decide (l1.drop 0 = l2.drop 0) by simp)
    have HLQ := Aside0.mk hq
    have q : (((l1.length : Nat) : Int) != ((l2.length : Nat) : Int)) = false := by rw [bne_eq_false_iff_eq]; omega
    rw [← hq]
    clear hl1 hl2 k2 hq q
    generalize hn1 : l1.length = n1 at *
    have HN1 := Aside0.mk hn1
    clear hn1
    go_enter Tryz.func32, Tryz.ntmps32
    go_wp2_with fail
    go_loopg [5] n1 (fun gg s5 wr => ∃ i : Nat, s5 = .int .i64 i ∧ i + gg = n1 ∧ Aside0 (Below W.heap.size W wr) ∧ Aside0 (ReadsI wr A1 l1 ∧ ReadsI wr A2 l2) ∧ Aside0 (decide (l1 = l2) = decide (l1.drop i = l2.drop i)))
    case atStart => exact ⟨0, rfl, by omega, HB, ⟨H1.out, H2.out⟩, HE⟩
    case round =>
      obtain ⟨i, rfl, hi, HW, HR, HD⟩ := hrel
      clear HB HE H1 H2
      cases gk with
      | zero =>
        have hn : ¬ ((i : Int) < (n1 : Int)) := by omega
        have HI := Aside0.mk (show i = n1 by omega)
        clear hi
        go_wp2_with fail
        go_ret
        refine ⟨ret_bool ?_, HW.out⟩
        rw [HD.out, HI.out, List.drop_of_length_le (by rw [HN1.out]; omega), List.drop_of_length_le (by rw [← HLQ.out]; omega)]
        rfl
      | succ g =>
        have hn : ((i : Int) < (n1 : Int)) := by omega
        have hn0 : 0 ≤ (i : Int) := by omega
        have HI := Aside0.mk (show i + 1 + g = n1 by omega)
        have hi1 : i < l1.length := by rw [HN1.out]; omega
        have hi2 : i < l2.length := by rw [← HLQ.out]; omega
        obtain ⟨g1, o1, rfl, r1⟩ := HR.out.1.out.resolve_left (by rintro rfl; simp at hi1)
        obtain ⟨g2, o2, rfl, r2⟩ := HR.out.2.out.resolve_left (by rintro rfl; simp at hi2)
        have e1 := r1 i hi1
        have e2 := r2 i hi2
        have hd := HD.out
        rw [List.drop_eq_getElem_cons hi1, List.drop_eq_getElem_cons hi2] at hd
        generalize l1[i] = x at *
        generalize l2[i] = y at *
        have HD2 := Aside0.mk hd
        have q : ((x : Int) != (y : Int)) = (x != y) := by rw [Bool.eq_iff_iff, bne_iff_ne, bne_iff_ne]; omega
        clear hi hd r1 r2
        cases hxy : (x != y)
        case true =>
          rw [hxy] at q
          have HXY := Aside0.mk (show x ≠ y by simpa using hxy)
          clear hxy HD
          go_wp2_with fail
          go_quiet (fail)
          go_wp2_with fail
          go_ret
          refine ⟨ret_bool ?_, pw_below_drewN HW.out _⟩
          rw [HD2.out]
          symm
          exact decide_eq_false (fun h => HXY.out (List.cons.inj h).1)
        case false =>
          rw [hxy] at q
          have HXY := Aside0.mk (show x = y by simpa using hxy)
          clear hxy HD
          go_wp2_with fail
          go_quiet (fail)
          go_wp2_with fail
          go_roundg g
          case measure => omega
          case rel =>
            refine ⟨i + 1, rfl, HI.out, ⟨pw_below_drewN HW.out _⟩, ⟨HR.out.1.below (pw_below_drewN (Below.refl _ _) _), HR.out.2.below (pw_below_drewN (Below.refl _ _) _)⟩, ⟨?_⟩⟩
            rw [HD2.out, HXY.out]
            simp
theorem intsA_c (W : World) (B1 B2 : Nat) (v1 v2 : Value) (l1 l2 : List Nat) (h1 : IntsAt W B1 v1 l1) (h2 : IntsAt W B2 v2 l2) (hl1 : l1.length ≤ 1000000) (hl2 : l2.length ≤ 1000000) :
    Calls Tryz.prog 32 #[v1, v2] W fun e w' => e = .returned (.bool (decide (l1 = l2))) ∧ Below W.heap.size W w' := by
  obtain ⟨A1, c1, rfl, r1⟩ := h1.reads
  obtain ⟨A2, c2, rfl, r2⟩ := h2.reads
  exact intsr_c W A1 A2 l1 l2 c1 c2 r1 r2 hl1 hl2
end Go.Proofs.YtgmlojocafepiaaGreatDoor.K

/- Walk: the set of some squares. -/
namespace Go.Proofs.YtgmlojocafepiaaGreatDoor.K
open Go.RowKit Go.Lib Go.Proofs.YtgmlojocafepiaaGreatDoorW.PrintWords Go.Proofs.YtgmlojocafepiaaGreatDoor.Sp
set_option linter.unusedVariables false
set_option linter.unusedSimpArgs false
def fL (l : List Nat) : Nat → Bool := fun k => l.contains k
theorem fL_put (l : List Nat) (i : Nat) (h : i < l.length) : putF (fL (l.take i)) l[i] = fL (l.take (i + 1)) := by
  funext k
  unfold putF fL
  rw [Bool.eq_iff_iff]
  simp only [Bool.or_eq_true, beq_iff_eq, List.contains_iff_mem, List.take_succ_eq_append_getElem h, List.mem_append, List.mem_singleton]
theorem fL_pieces {s : ByteArray} (hs : isBoard s = true) (a : Int) (ha : 0 ≤ a) : setF (fL (piecesS s a)) = setF (sqF s a) := by
  refine setF_congr fun i hi => ?_
  unfold fL piecesS sqF
  rw [if_pos hs, Bool.eq_iff_iff]
  simp [hi, ha]
set_option maxRecDepth 100000 in
set_option maxHeartbeats 2000000 in
theorem of_c (l : List Nat) (hl : ∀ x ∈ l, x < 90) (hlen : l.length ≤ 1000000) (B : Nat) (v : Value) (w : World) (h : IntsAt w B v l) :
    Calls Tryz.prog 63 #[v] w fun e w' => e = .returned (setF (fL l)) ∧ Below w.heap.size w w' := by
  have hu := Tryz.underlying87
  have HS := Aside0.mk (StAt.new w)
  have HV := Aside0.mk h
  have HL := Aside0.mk hl
  have HLN := Aside0.mk hlen
  obtain ⟨A, cap, rfl, _, _⟩ := h.out
  have h0 : loB (fL (l.take 0)) = 0 ∧ hiB (fL (l.take 0)) = 0 := ⟨bits_zero.2 (by simp [fL]), bits_zero.2 (by simp [fL])⟩
  have H0 := Aside0.mk h0
  clear h hl hlen h0
  go_enter Tryz.func63, Tryz.ntmps63
  go_wp2_with fail
  go_loopg [8] l.length (fun gg s8 wr => ∃ i : Nat, s8 = .int .i64 i ∧ i + gg = l.length ∧ Aside0 (StAt w wr (loB (fL (l.take i))) (hiB (fL (l.take i)))))
  case atStart => exact ⟨0, rfl, by omega, ⟨by rw [H0.out.1, H0.out.2]; exact HS.out⟩⟩
  case round =>
    clear HS
    obtain ⟨i, rfl, hi, HR⟩ := hrel
    cases gk with
    | zero =>
      have hn : ¬ ((i : Int) < (l.length : Int)) := by omega
      have HI := Aside0.mk (show l.take i = l from List.take_of_length_le (by omega))
      rw [HI.out] at HR
      obtain ⟨r0, r1, fr, e0, e1, fz, _⟩ := HR.out
      have hne : w.heap.size + 1 ≠ w.heap.size := by omega
      clear hi HI
      go_wp2_with fail
      refine bodyPost_ret (by simp [results, Tryz.results63, go_sem, r0, r1]; try rfl) rfl ?_
      refine ⟨rfl, ?_⟩
      (repeat' (first | (with_reducible exact Below.refl _ _) | (with_reducible refine pw_below_drewN ?_ _) | (with_reducible refine below_alloc ?_ _) | (with_reducible refine Below.drew ?_) | (with_reducible refine Below.setCell ?_ ?_ _) | (simp; done))) <;> first | exact HR.out.bel | (simp; done) | (simp; omega)
    | succ gk =>
      have hn : (i : Int) < (l.length : Int) := by omega
      have hil : i < l.length := by omega
      have hib : (i : Int) ≤ 1000000 := by have := HLN.out; omega
      have HI := Aside0.mk (show i + 1 + gk = l.length by omega)
      have HWi := Aside0.mk (fun W => with_c (fL (l.take i)) l[i] (HL.out _ (List.getElem_mem hil)) W)
      rw [fL_put l i hil] at HWi
      have HWi : Aside0 (∀ W, Calls Tryz.prog 66 #[setV (loB (fL (l.take i))) (hiB (fL (l.take i))), .int .i64 (l[i] : Int)] W fun e w' => e = .returned (setV (loB (fL (l.take (i + 1)))) (hiB (fL (l.take (i + 1))))) ∧ Below W.heap.size W w') := HWi
      obtain ⟨A2, cap2, hv, _, hx⟩ := HV.out.out
      simp only [Value.slice.injEq, true_and] at hv
      obtain ⟨rfl, rfl⟩ := hv
      obtain ⟨g, rfl, _, hg, hcell⟩ := hx.resolve_left (fun h => by rw [h] at hil; simp at hil)
      have ci := (HR.out.bel.cell (p := ⟨g, i, none⟩) hg).trans (hcell i hil)
      clear hcell hx hi
      generalize loB (fL (l.take i)) = a at *
      generalize hiB (fL (l.take i)) = b at *
      generalize l[i] = x at *
      clear hil
      obtain ⟨r0, r1, fr, e0, e1, fz, _⟩ := HR.out
      go_wp2_with (go_at_call 66; refine (HWi.out _).mono ?_; rintro e w3 ⟨rfl, hb⟩; have HR3 := Aside0.mk (HR.out.below hb); clear hb HR r0 r1 fr e0 e1 fz; obtain ⟨r0, r1, fr, e0, e1, fz, _⟩ := HR3.out)
      go_roundg gk
      case measure => omega
      case rel => exact ⟨i + 1, by go_num, HI.out, ⟨HR3.out.put _ _⟩⟩
end Go.Proofs.YtgmlojocafepiaaGreatDoor.K

/- Walk: a game's Make. -/
namespace Go.Proofs.YtgmlojocafepiaaGreatDoor.K
open Go.RowKit Go.Lib Go.Proofs.YtgmlojocafepiaaGreatDoorW.PrintWords Go.Proofs.YtgmlojocafepiaaGreatDoor.Sp
set_option linter.unusedVariables false
set_option linter.unusedSimpArgs false
def stepMake (now : Pos) (us : List Und) (m : Mvi) : Int × Pos × List Und :=
  if us.length = 1024 then (8, now, us) else if (makeP now m).2.2 ≠ 0 then (7, now, us)
  else (0, (makeP now m).1, us ++ [⟨(m.frm.toNat, m.dest.toNat), (makeP now m).2.1, now.clock, now.full⟩])
/-- S and what is new since. -/
abbrev andNew (S : Nat → Prop) (W w' : World) : Nat → Prop := fun k => S k ∨ (W.heap.size ≤ k ∧ k < w'.heap.size)
def MadeIs (S : Nat → Prop) (gb pb : Nat) (r : Int × Pos × List Und) (W : World) (e : Ending) (w' : World) : Prop :=
  ∃ sv', e = .returned (.int .i64 r.1) ∧ GmX w' (andNew S W w') gb pb sv' r.2.1 r.2.2 ∧ Ken S W w'
/-- Ahead of a move that is made: the game, the move's box. -/
structure MkAt (W w : World) (S : Nat → Prop) (gb pb : Nat) (sv : Value) (now : Pos) (a b c d : Nat) (us : List Und) (m : Mvi) : Prop where
  gm : GmZ w S gb pb sv now a b c d us
  d0 : w.cell? ⟨W.heap.size, 0, none⟩ = some (.int .i64 m.frm)
  d1 : w.cell? ⟨W.heap.size, 1, none⟩ = some (.int .i64 m.dest)
  bel : Below W.heap.size W w
  low : gb < W.heap.size ∧ pb < W.heap.size
section
variable {W w w' : World} {S : Nat → Prop} {gb pb : Nat} {sv : Value} {now : Pos} {a b c d : Nat} {us : List Und} {m : Mvi}
theorem MkAt.below (h : MkAt W w S gb pb sv now a b c d us m) (hb : Below w.heap.size w w') : MkAt W w' S gb pb sv now a b c d us m :=
  ⟨h.gm.below hb, below_cell hb _ _ _ h.d0, below_cell hb _ _ _ h.d1, below_go h.bel hb, h.low⟩
theorem MkAt.drew (h : MkAt W w S gb pb sv now a b c d us m) : MkAt W w.drew S gb pb sv now a b c d us m := h.below (pw_below_drewN (Below.refl _ _) 1)
theorem MkAt.new (h : GmZ W S gb pb sv now a b c d us) (m : Mvi) : MkAt W (W.alloc (.cells #[.int .i64 m.frm, .int .i64 m.dest] 32)) S gb pb sv now a b c d us m :=
  ⟨h.below (below_alloc (Below.refl _ _) _), by simp [World.cell?_alloc_at], by simp [World.cell?_alloc_at], below_alloc (Below.refl _ _) _, h.lt⟩
/-- Behind legal.Make: the new position's box too. -/
structure MqAt (W w : World) (S : Nat → Prop) (gb pb : Nat) (sv : Value) (now : Pos) (a b c d : Nat) (us : List Und) (m : Mvi) (q : Pos) (qb : Nat) : Prop where
  gm : GmZ w S gb pb sv now a b c d us
  d0 : w.cell? ⟨W.heap.size, 0, none⟩ = some (.int .i64 m.frm)
  d1 : w.cell? ⟨W.heap.size, 1, none⟩ = some (.int .i64 m.dest)
  qx : BoxP w qb q
  ken : Ken S W w
  qge : W.heap.size < qb
  low : gb < W.heap.size ∧ pb < W.heap.size
theorem MqAt.mk1 (h : MkAt W w S gb pb sv now a b c d us m) (q : Pos) : MqAt W (w.alloc (.cells #[.string q.cells, .int .i64 q.side, .int .i64 q.clock, .int .i64 q.full] 23)) S gb pb sv now a b c d us m q w.heap.size := by
  have h1 := h.below (below_alloc (Below.refl w.heap.size w) (.cells #[.string q.cells, .int .i64 q.side, .int .i64 q.clock, .int .i64 q.full] 23))
  exact ⟨h1.gm, h1.d0, h1.d1, BoxP.new w q, Ken.of_below h1.bel S, World.block_lt_of_cell? w ⟨W.heap.size, 0, none⟩ h.d0, h.low⟩
theorem MqAt.mk2 {W0 : World} (h : MkAt W W0 S gb pb sv now a b c d us m) (hb : Below W0.heap.size W0 w) (z0 : w.cell? ⟨W0.heap.size, 0, none⟩ = some (.string { data := #[] })) (z1 : w.cell? ⟨W0.heap.size, 1, none⟩ = some (.int .i64 0)) (z2 : w.cell? ⟨W0.heap.size, 2, none⟩ = some (.int .i64 0)) (z3 : w.cell? ⟨W0.heap.size, 3, none⟩ = some (.int .i64 0)) (q : Pos) :
    MqAt W ((((w.setCell ⟨W0.heap.size, 0, none⟩ (.string q.cells)).setCell ⟨W0.heap.size, 1, none⟩ (.int .i64 q.side)).setCell ⟨W0.heap.size, 2, none⟩ (.int .i64 q.clock)).setCell ⟨W0.heap.size, 3, none⟩ (.int .i64 q.full)) S gb pb sv now a b c d us m q W0.heap.size := by
  have h1 := h.below (Below.setCell (p := ⟨W0.heap.size, 3, none⟩) (Below.setCell (p := ⟨W0.heap.size, 2, none⟩) (Below.setCell (p := ⟨W0.heap.size, 1, none⟩) (Below.setCell (p := ⟨W0.heap.size, 0, none⟩) hb (Nat.le_refl _) (.string q.cells)) (Nat.le_refl _) (.int .i64 q.side)) (Nat.le_refl _) (.int .i64 q.clock)) (Nat.le_refl _) (.int .i64 q.full))
  exact ⟨h1.gm, h1.d0, h1.d1, ⟨by simp [go_sem, z0, z1, z2, z3], by simp [go_sem, z0, z1, z2, z3], by simp [go_sem, z0, z1, z2, z3], by simp [go_sem, z0, z1, z2, z3]⟩, Ken.of_below h1.bel S, World.block_lt_of_cell? W0 ⟨W.heap.size, 0, none⟩ h.d0, h.low⟩
end
section
variable {W w w' : World} {S : Nat → Prop} {gb pb qb : Nat} {sv : Value} {now q : Pos} {a b c d : Nat} {us : List Und} {m : Mvi}
/-- S and all that is new. -/
abbrev orNew (S : Nat → Prop) (W : World) : Nat → Prop := fun k => S k ∨ W.heap.size ≤ k
theorem Ken.orNew {S : Nat → Prop} {W w : World} (h : Ken (orNew S W) W w) : Ken S W w :=
  ⟨h.b0, fun k hk hn => h.block k hk (fun h2 => h2.elim hn (fun h3 => by omega))⟩
theorem GmZ.to {W : World} {S T : Nat → Prop} {gb pb : Nat} {sv : Value} {now : Pos} {a b c d : Nat} {us : List Und} (h : GmZ W S gb pb sv now a b c d us) (hs : ∀ k, S k → k < W.heap.size → T k) : GmZ W T gb pb sv now a b c d us := by
  refine ⟨h.g0, h.g1, h.g2, h.g3, h.g4, h.g5, h.g6, h.g7, h.g8, h.gf, h.p0, h.pf, h.row, h.ne, fun k he => ⟨(h.far k he).1, (h.far k he).2.1, hs k (h.far k he).2.2 (own_lt h.row k he)⟩, hs _ h.sg h.lt.1, hs _ h.sp h.lt.2⟩
theorem MqAt.below (h : MqAt W w S gb pb sv now a b c d us m q qb) (hb : Below w.heap.size w w') : MqAt W w' S gb pb sv now a b c d us m q qb :=
  ⟨h.gm.below hb, below_cell hb _ _ _ h.d0, below_cell hb _ _ _ h.d1, ⟨below_cell hb _ _ _ h.qx.c0, below_cell hb _ _ _ h.qx.c1, below_cell hb _ _ _ h.qx.c2, below_cell hb _ _ _ h.qx.c3⟩, h.ken.below hb, h.qge, h.low⟩
theorem MqAt.drew (h : MqAt W w S gb pb sv now a b c d us m q qb) : MqAt W w.drew S gb pb sv now a b c d us m q qb := h.below (pw_below_drewN (Below.refl _ _) 1)
theorem MqAt.keep {T : Nat → Prop} {sv2 : Value} {now2 : Pos} {a2 b2 c2 d2 : Nat} {us2 : List Und} (h : MqAt W w S gb pb sv now a b c d us m q qb) {R : Nat → Prop} (hk : Ken R w w') (hr : ∀ k, R k → k < W.heap.size ∨ qb < k) (hrs : ∀ k, R k → T k ∨ W.heap.size ≤ k) (hst : ∀ k, S k → T k) (hg : GmZ w' T gb pb sv2 now2 a2 b2 c2 d2 us2) : MqAt W w' T gb pb sv2 now2 a2 b2 c2 d2 us2 m q qb := by
  have hq := h.qge
  have n1 : ¬ R W.heap.size := fun hh => by have := hr _ hh; omega
  have n2 : ¬ R qb := fun hh => by have := hr _ hh; omega
  exact ⟨hg, hk.cell h.d0 n1, hk.cell h.d1 n1, ⟨hk.cell h.qx.c0 n2, hk.cell h.qx.c1 n2, hk.cell h.qx.c2 n2, hk.cell h.qx.c3 n2⟩, (h.ken.mono hst).trans hk hrs, h.qge, h.low⟩
theorem MqAt.setRed (h : MqAt W w S gb pb sv now a b c d us m q qb) (x y : Nat) : MqAt W ((w.setCell ⟨gb, 5, none⟩ (.int .u64 (x : Int))).setCell ⟨gb, 6, none⟩ (.int .u64 (y : Int))) S gb pb sv now x y c d us m q qb :=
  h.keep (R := fun k => k = gb) (((Ken.refl (fun k => k = gb) w).setCell (p := ⟨gb, 5, none⟩) (.inl rfl) _).setCell (p := ⟨gb, 6, none⟩) (.inl rfl) _) (fun k hk => by rw [hk]; exact .inl h.low.1) (fun k hk => by rw [hk]; exact .inl h.gm.sg) (fun _ hk => hk) (h.gm.setRed x y)
theorem MqAt.setBlack (h : MqAt W w S gb pb sv now a b c d us m q qb) (x y : Nat) : MqAt W ((w.setCell ⟨gb, 7, none⟩ (.int .u64 (x : Int))).setCell ⟨gb, 8, none⟩ (.int .u64 (y : Int))) S gb pb sv now a b x y us m q qb :=
  h.keep (R := fun k => k = gb) (((Ken.refl (fun k => k = gb) w).setCell (p := ⟨gb, 7, none⟩) (.inl rfl) _).setCell (p := ⟨gb, 8, none⟩) (.inl rfl) _) (fun k hk => by rw [hk]; exact .inl h.low.1) (fun k hk => by rw [hk]; exact .inl h.gm.sg) (fun _ hk => hk) (h.gm.setBlack x y)
/-- The end of a move: the new position is laid. -/
theorem MqAt.fin (h : MqAt W w (orNew S W) gb pb sv now a b c d us m q qb) (ha : loB (sqF q.cells 0) = a) (hb : hiB (sqF q.cells 0) = b) (hc : loB (sqF q.cells 1) = c) (hd : hiB (sqF q.cells 1) = d) :
    MadeIs S gb pb (0, q, us) W (.returned (.int .i64 0)) ((((w.setCell ⟨gb, 1, none⟩ (.string q.cells)).setCell ⟨gb, 2, none⟩ (.int .i64 q.side)).setCell ⟨gb, 3, none⟩ (.int .i64 q.clock)).setCell ⟨gb, 4, none⟩ (.int .i64 q.full)) := by
  have hk : Ken (fun k => k = gb) w ((((w.setCell ⟨gb, 1, none⟩ (.string q.cells)).setCell ⟨gb, 2, none⟩ (.int .i64 q.side)).setCell ⟨gb, 3, none⟩ (.int .i64 q.clock)).setCell ⟨gb, 4, none⟩ (.int .i64 q.full)) :=
    ((((Ken.refl (fun k => k = gb) w).setCell (p := ⟨gb, 1, none⟩) (.inl rfl) _).setCell (p := ⟨gb, 2, none⟩) (.inl rfl) _).setCell (p := ⟨gb, 3, none⟩) (.inl rfl) _).setCell (p := ⟨gb, 4, none⟩) (.inl rfl) _
  have h2 := h.keep (R := fun k => k = gb) hk (fun k hk => by rw [hk]; exact .inl h.low.1) (fun k hk => by rw [hk]; exact .inl h.gm.sg) (fun _ hk => hk) (h.gm.setNow q)
  subst ha hb hc hd
  exact ⟨sv, rfl, h2.gm.to (fun k hk hl => hk.elim .inl (fun h3 => .inr ⟨h3, hl⟩)), h2.ken.orNew⟩
/-- The move is put on the stack: what the region reads is still there. -/
theorem MqAt.grew (h : MqAt W w S gb pb sv now a b c d us m q qb) (hold : ∀ k, sv.ownBlock = some k → k < W.heap.size) (o : Obj) (hg : (w.alloc o).drew.grownBy w' sv.ownBlock) :
    w'.cell? ⟨gb, 0, none⟩ = some (.pointer (some ⟨pb, 0, none⟩)) ∧ w'.cell? ⟨gb, 3, none⟩ = some (.int .i64 now.clock) ∧ w'.cell? ⟨gb, 4, none⟩ = some (.int .i64 now.full) ∧ w'.cell? ⟨pb, 0, none⟩ = some sv ∧ (∀ k, w'.frozen? ⟨pb, k, none⟩ = false) ∧ w'.cell? ⟨W.heap.size, 0, none⟩ = some (.int .i64 m.frm) ∧ w'.cell? ⟨W.heap.size, 1, none⟩ = some (.int .i64 m.dest) := by
  have h1 := (h.below (below_alloc (Below.refl _ w) o)).drew
  have hk : Ken (fun k => sv.ownBlock = some k) (w.alloc o).drew w' := (Ken.refl _ _).grown hg (fun k hk => .inl hk)
  have n1 : ¬ sv.ownBlock = some gb := fun he => (h.gm.far gb he).1 rfl
  have n2 : ¬ sv.ownBlock = some pb := fun he => (h.gm.far pb he).2.1 rfl
  have n3 : ¬ sv.ownBlock = some W.heap.size := fun he => by have := hold _ he; omega
  exact ⟨hk.cell h1.gm.g0 n1, hk.cell h1.gm.g3 n1, hk.cell h1.gm.g4 n1, hk.cell h1.gm.p0 n2, fun k => (hk.free h1.gm.lt.2 n2).trans (h1.gm.pf k), hk.cell h1.d0 n3, hk.cell h1.d1 n3⟩
theorem MqAt.append {g cap n : Nat} {us2 : List Und} (h : MqAt W w S gb pb sv now a b c d us m q qb) (hold : ∀ k, sv.ownBlock = some k → k < W.heap.size) (o : Obj) (hg : (w.alloc o).drew.grownBy w' sv.ownBlock)
    (ho : w'.ownsRow 0 93 5 (.slice (some ⟨g, 0, none⟩) us2.length cap) us2.length (flatU us2)) (hat : sv.ownBlock = some g ∨ g = w.heap.size + 1) (hn : us2.length = n) :
    MqAt W (w'.setCell ⟨pb, 0, none⟩ (.slice (some ⟨g, 0, none⟩) n cap)) (orNew S W) gb pb (.slice (some ⟨g, 0, none⟩) n cap) now a b c d us2 m q qb := by
  subst hn
  have h1 := (h.below (below_alloc (Below.refl _ w) o)).drew
  have hlt := h.gm.lt
  have hqlt : qb < w.heap.size := World.block_lt_of_cell? w ⟨qb, 0, none⟩ h.qx.c0
  have hq := h.qge
  have hk : Ken (fun k => sv.ownBlock = some k) (w.alloc o).drew w' := (Ken.refl _ _).grown hg (fun k hk => .inl hk)
  have hp4 := (h.grew hold o hg).2.2.2.1
  have hk2 : Ken (fun k => sv.ownBlock = some k ∨ k = pb) (w.alloc o).drew (w'.setCell ⟨pb, 0, none⟩ (.slice (some ⟨g, 0, none⟩) us2.length cap)) := (hk.mono (fun k h => .inl h)).setCell (p := ⟨pb, 0, none⟩) (.inl (.inr rfl)) _
  have hne := h.gm.ne
  have n1 : ¬ (sv.ownBlock = some gb ∨ gb = pb) := fun he => he.elim (fun he => (h.gm.far gb he).1 rfl) hne
  have n2 : ¬ sv.ownBlock = some pb := fun he => (h.gm.far pb he).2.1 rfl
  have hgb : g ≠ gb ∧ g ≠ pb ∧ orNew S W g := by
    rcases hat with he | he
    · exact ⟨(h.gm.far g he).1, (h.gm.far g he).2.1, .inl (h.gm.far g he).2.2⟩
    · exact ⟨by omega, by omega, .inr (by omega)⟩
  have hk3 : Ken (fun k => k = pb) w' (w'.setCell ⟨pb, 0, none⟩ (.slice (some ⟨g, 0, none⟩) us2.length cap)) := (Ken.refl (fun k => k = pb) _).setCell (p := ⟨pb, 0, none⟩) (.inl rfl) _
  have hgm : GmZ (w'.setCell ⟨pb, 0, none⟩ (.slice (some ⟨g, 0, none⟩) us2.length cap)) (orNew S W) gb pb (.slice (some ⟨g, 0, none⟩) us2.length cap) now a b c d us2 :=
    ⟨hk2.cell h1.gm.g0 n1, hk2.cell h1.gm.g1 n1, hk2.cell h1.gm.g2 n1, hk2.cell h1.gm.g3 n1, hk2.cell h1.gm.g4 n1, hk2.cell h1.gm.g5 n1, hk2.cell h1.gm.g6 n1, hk2.cell h1.gm.g7 n1, hk2.cell h1.gm.g8 n1, fun k => (hk2.free h1.gm.lt.1 n1).trans (h1.gm.gf k), World.cell?_setCell_same' _ _ _ (by rw [hp4]; rfl), fun k => (World.frozen?_setCell _ _ _ _).trans ((hk.free h1.gm.lt.2 n2).trans (h1.gm.pf k)), hk3.row ho (fun k he => by simp only [Value.ownBlock, Option.some.injEq] at he; subst he; exact hgb.2.1), hne, fun k he => by simp only [Value.ownBlock, Option.some.injEq] at he; subst he; exact hgb, .inl h.gm.sg, .inl h.gm.sp⟩
  exact h1.keep (R := fun k => sv.ownBlock = some k ∨ k = pb) hk2 (fun k hk => .inl (hk.elim (hold k) (fun he => by rw [he]; exact h.low.2))) (fun k hk => .inl (.inl (hk.elim (fun he => (h.gm.far k he).2.2) (fun he => by rw [he]; exact h.gm.sp)))) (fun _ hk => .inl hk) hgm
end
theorem info_und : (Tryz.prog.info? 93).map (fun i => (i.zero, i.size, i.bytes)) = some (some (.agg #[.int .i64 0, .int .i64 0, .int .u8 0, .int .i64 0, .int .i64 0]), 5, 40) := by kernel_rfl
/-- A move is appended to the stack, in a region. -/
theorem step_appU {ops : Array Oper} {o : Oper} {a : Act} {K : Act → World → Prop} {Q : Exit → Act → World → Prop} {E : Prop} (W : World) (hgd : o.guard = none) (s x : Operand)
    (ho : o.op = .call { callee := .builtin .append, args := #[s, x], argTypes := #[82, 82] }) (v : Value) (us : List Und) (f g ck fl : Int) (tk : Nat) (u : Und) (hu : undC u = [.int .i64 f, .int .i64 g, .int .u8 (tk : Int), .int .i64 ck, .int .i64 fl]) (hs : a.eval s = v) (hx : a.eval x = .slice (some ⟨W.heap.size, 0, none⟩) 1 1)
    (hown : W.ownsRow 0 93 5 v us.length (flatU us)) (hlen : us.length ≤ 1024)
    (h : ∀ b cap w', w'.ownsRow 0 93 5 (.slice (some ⟨b, 0, none⟩) (us ++ [u]).length cap) (us ++ [u]).length (flatU (us ++ [u])) → (W.alloc (.cells #[.int .i64 f, .int .i64 g, .int .u8 (tk : Int), .int .i64 ck, .int .i64 fl] 93)).drew.grownBy w' v.ownBlock → (v.ownBlock = some b ∨ b = W.heap.size + 1) → K (a.put o.dst (.slice (some ⟨b, 0, none⟩) (us.length + 1) cap)) w') :
    if Region.wanted o (yielded ops a.tmps) = true then Oper.wp Tryz.prog o a (W.alloc (.cells #[.int .i64 f, .int .i64 g, .int .u8 (tk : Int), .int .i64 ck, .int .i64 fl] 93)).drew K Q else E := by
  obtain ⟨i0, hi0, hx0⟩ := Option.map_eq_some_iff.1 info_und
  simp only [Prod.mk.injEq] at hx0
  have hb := pw_below_drewN (below_alloc (Below.refl W.heap.size W) (.cells #[.int .i64 f, .int .i64 g, .int .u8 (tk : Int), .int .i64 ck, .int .i64 fl] 93)) 1
  have hown2 := (Ken.of_below hb (fun _ => False)).row hown (fun _ _ hk => hk)
  refine step_append_lies _ hgd s x _ ho 0 93 i0 _ 5 40 Tryz.underlying82 hi0 hx0.1 hx0.2.1 hx0.2.2 rfl (by omega) v us.length (flatU us) hs hown2 ⟨W.heap.size, 0, none⟩ 1 1 [.int .i64 f, .int .i64 g, .int .u8 (tk : Int), .int .i64 ck, .int .i64 fl] hx rfl
    (World.news_of_block (cs := #[.int .i64 f, .int .i64 g, .int .u8 (tk : Int), .int .i64 ck, .int .i64 fl]) (t := 93) (fr := (0, 0)) (by exact heap_alloc_new _ _)) (by simp [Value.oneCell']) (by omega) (by unfold maxLen; omega) (by omega) (Nat.zero_le _) _ rfl ?_
  intro b cap w' h1 h2 h3 _
  refine h b cap w' ?_ h2 (h3.imp id (fun he => by rw [he]; show (W.alloc _).heap.size = _; simp))
  rw [flatU_append, hu, List.length_append]
  exact h1
end Go.Proofs.YtgmlojocafepiaaGreatDoor.K

/- Walk: a game's Make. -/
namespace Go.Proofs.YtgmlojocafepiaaGreatDoor.K
open Go.RowKit Go.Lib Go.Proofs.YtgmlojocafepiaaGreatDoorW.PrintWords Go.Proofs.YtgmlojocafepiaaGreatDoor.Sp
set_option linter.unusedVariables false
set_option linter.unusedSimpArgs false
theorem safe_form {p : Pos} {m : Mvi} (hw : wellS p = 0) (hs : safeS p m = true) : ∃ a b : Nat, m = ⟨(a : Int), (b : Int)⟩ := by
  have hck := well_check hw
  obtain ⟨⟨f0, f1⟩, ⟨g0, g1⟩, _⟩ := (ok_good hck).1 (safe_is_good hck hs)
  obtain ⟨f, g⟩ := m
  exact ⟨f.toNat, g.toNat, by simp only [Mvi.mk.injEq]; simp only at f0 g0; omega⟩
set_option maxRecDepth 100000 in
set_option maxHeartbeats 4000000 in
theorem gmake_c (S : Nat → Prop) (gb pb : Nat) (sv : Value) (now : Pos) (us : List Und) (m : Mvi) (W : World) (hG : GmX W S gb pb sv now us) (hT : TabW W) (hw : wellS now = 0) (hl : us.length ≤ 1024) : Calls Tryz.prog 25 #[.pointer (some ⟨gb, 0, none⟩), mviV m] W (MadeIs S gb pb (stepMake now us m) W) := by
  have hu := Tryz.underlying23
  have hu2 := Tryz.underlying32
  have HP0 := Aside0.mk (MkAt.new hG m)
  have HT := Aside0.mk (fun (W' : World) (hb : Below W.heap.size W W') => hT.below hb)
  have HL := Aside0.mk hl
  have HOLD := Aside0.mk (own_lt hG.row)
  obtain ⟨A, cap, rfl⟩ := row_form hG.row
  by_cases h1 : us.length = 1024
  · have HR : stepMake now us m = (8, now, us) := by unfold stepMake; rw [if_pos h1]
    rw [HR]
    have hn : (us.length : Int) = 1024 := by omega
    clear HR h1 hG hT hw hl HL HOLD
    go_enter Tryz.func25, Tryz.ntmps25
    go_upto_region 1 with fail
    generalize W.alloc (.cells #[.int .i64 m.frm, .int .i64 m.dest] 32) = W1 at *
    obtain ⟨g0, _, _, _, _, _, _, _, _, _, p0, _, _, _, _, _, _⟩ := HP0.out.gm
    go_wp2_with fail
    go_ret
    exact ⟨_, rfl, HP0.out.gm.mono (fun k h => .inl h), Ken.of_below HP0.out.bel S⟩
  have hn : ¬ ((us.length : Int) = 1024) := by omega
  have hnb : ((us.length : Int) == 1024) = false := by simp [hn]
  have HSM := Aside0.mk (show stepMake now us m = if (makeP now m).2.2 ≠ 0 then (7, now, us) else (0, (makeP now m).1, us ++ [⟨(m.frm.toNat, m.dest.toNat), (makeP now m).2.1, now.clock, now.full⟩]) from by unfold stepMake; rw [if_neg h1])
  have HMK := Aside0.mk (fun W => make_c now m W)
  have HER := Aside0.mk (make_err (p := now) (m := m))
  have HOK := Aside0.mk (fun (a b : Nat) (q : Pos) (c : Nat) (he : m = ⟨(a : Int), (b : Int)⟩) (hs : safeS now m = true) (hm : makeP now m = (q, c, 0)) => okMv (m := (a, b)) hw (by rw [he] at hs; exact hs) (by rw [he] at hm; exact hm))
  have HF := Aside0.mk (fun (hs : safeS now m = true) => safe_form hw hs)
  unfold MakeIs at HMK
  generalize hmk : makeP now m = mk at *
  obtain ⟨q, c, er⟩ := mk
  simp only at HMK HSM HER
  clear hmk h1 hG hT hw hl
  go_enter Tryz.func25, Tryz.ntmps25
  go_upto_region 1 with fail
  generalize W.alloc (.cells #[.int .i64 m.frm, .int .i64 m.dest] 32) = W1 at *
  obtain ⟨g0, g1, g2, g3, g4, g5, g6, g7, g8, gf, p0, pf, _, hne, _, _, _⟩ := HP0.out.gm
  have d0 := HP0.out.d0
  have d1 := HP0.out.d1
  go_wp2_with fail
  have HX1 := Aside0.mk HP0.out.drew
  clear HP0
  go_cut [5, 6, 7] from 22 to 31 (fun s5 s6 s7 wx => ∃ qb : Nat, s5 = .pointer (some ⟨qb, 0, none⟩) ∧ s6 = .int .u8 (c : Int) ∧ s7 = .int .i64 er ∧ Aside0 (MqAt W wx S gb pb (.slice A us.length cap) now (loB (sqF now.cells 0)) (hiB (sqF now.cells 0)) (loB (sqF now.cells 1)) (hiB (sqF now.cells 1)) us m q qb))
  case first =>
    go_region_held3 (fun V => V.cell? ⟨gb, 1, none⟩ = some (.string now.cells) ∧ V.cell? ⟨gb, 2, none⟩ = some (.int .i64 now.side) ∧ V.cell? ⟨gb, 3, none⟩ = some (.int .i64 now.clock) ∧ V.cell? ⟨gb, 4, none⟩ = some (.int .i64 now.full) ∧ V.cell? ⟨W.heap.size, 0, none⟩ = some (.int .i64 m.frm) ∧ V.cell? ⟨W.heap.size, 1, none⟩ = some (.int .i64 m.dest)) (go_keep)
      (first
        | (go_at_call 52; (with_reducible refine (HMK.out W1.drew (HT.out _ HX1.out.bel)).mono ?_); rintro e w6 ⟨rfl, hb⟩; have HX2 := Aside0.mk (HX1.out.below hb); clear HX1 hb g0 g1 g2 g3 g4 g5 g6 g7 g8 gf p0 pf d0 d1; obtain ⟨g0, g1, g2, g3, g4, g5, g6, g7, g8, gf, p0, pf, _, _, _, _, _⟩ := HX2.out.gm; have d0 := HX2.out.d0; have d1 := HX2.out.d1; have n0 : w6.heap.size ≠ gb := World.new_ne w6 _ g0; have n1 : w6.heap.size ≠ W.heap.size := World.new_ne w6 _ d0)
        | (go_at_call 52; refine (HMK.out _ (HT.out _ (by exact below_new HX1.out.bel _))).mono ?_; rintro e w6 ⟨rfl, hb⟩; have HZ := Aside0.mk (zq_new W1.drew w6 hb); have HX2 := Aside0.mk ((HX1.out.below (below_alloc (Below.refl _ _) _)).below hb); have n0 : W1.heap.size ≠ gb := World.new_ne W1 _ g0; have n1 : W1.heap.size ≠ W.heap.size := World.new_ne W1 _ d0; clear hb g0 g1 g2 g3 g4 g5 g6 g7 g8 gf p0 pf d0 d1; obtain ⟨g0, g1, g2, g3, g4, g5, g6, g7, g8, gf, p0, pf, _, _, _, _, _⟩ := HX2.out.gm; have d0 := HX2.out.d0; have d1 := HX2.out.d1; have z0 : w6.cell? ⟨W1.heap.size, 0, none⟩ = some (.string { data := #[] }) := HZ.out.1; have z1 : w6.cell? ⟨W1.heap.size, 1, none⟩ = some (.int .i64 0) := HZ.out.2.1; have z2 : w6.cell? ⟨W1.heap.size, 2, none⟩ = some (.int .i64 0) := HZ.out.2.2.1; have z3 : w6.cell? ⟨W1.heap.size, 3, none⟩ = some (.int .i64 0) := HZ.out.2.2.2.1; have zf : ∀ k, w6.frozen? ⟨W1.heap.size, k, none⟩ = false := HZ.out.2.2.2.2.1))
    all_goals
      go_wp2_with fail
      go_meet
      first
      | exact ⟨_, rfl, rfl, rfl, ⟨MqAt.mk1 HX2.out q⟩⟩
      | exact ⟨_, rfl, rfl, rfl, ⟨MqAt.mk2 HX1.out HZ.out.2.2.2.2.2 z0 z1 z2 z3 q⟩⟩
  case rest =>
  obtain ⟨qb, rfl, rfl, rfl, HQ⟩ := hcut
  clear g0 g1 g2 g3 g4 g5 g6 g7 g8 gf p0 pf d0 d1 HX1 HMK HT
  by_cases her : er = 0
  case neg =>
    have HR : stepMake now us m = (7, now, us) := by rw [HSM.out, if_pos her]
    have HRA := Aside0.mk HR
    have hb : (er != 0) = true := by simp [her]
    clear HR
    go_wp2_with fail
    go_ret
    rw [HRA.out]
    exact ⟨_, rfl, HQ.out.gm.mono (fun k h => .inl h), HQ.out.ken⟩
  case pos =>
  subst her
  obtain ⟨_, hsf⟩ := HER.out.1 rfl
  obtain ⟨ma, mb, rfl⟩ := HF.out hsf
  have hok := HOK.out ma mb q c rfl hsf rfl
  have HR : stepMake now us ⟨(ma : Int), (mb : Int)⟩ = (0, q, us ++ [⟨(ma, mb), c, now.clock, now.full⟩]) := by rw [HSM.out, if_neg (by simp)]; rfl
  have HRA := Aside0.mk HR
  clear HR hsf HSM HER HF HOK
  have hlen : us.length ≤ 1024 := HL.out
  have ha := hok.a90
  have hb := hok.b90
  obtain ⟨g0, g1, g2, g3, g4, g5, g6, g7, g8, gf, p0, pf, _, hne, _, _, _⟩ := HQ.out.gm
  have d0 := HQ.out.d0
  have d1 := HQ.out.d1
  have HX := HQ
  clear HQ
  go_wp2_with fail
  have hne2 : pb ≠ gb := fun h => hne h.symm
  have nl5 : pb < _ := World.block_lt_of_cell? _ _ p0
  have nl6 : gb < _ := World.block_lt_of_cell? _ _ g0
  have nl7 : W.heap.size < _ := World.block_lt_of_cell? _ _ d0
  have nl1 : pb ≠ W.heap.size := by have := HX.out.low.2; omega
  have nl2 : W.heap.size ≠ pb := fun h => nl1 h.symm
  have nl3 : gb ≠ W.heap.size := by have := HX.out.low.1; omega
  have nl4 : W.heap.size ≠ gb := fun h => nl3 h.symm
  go_cut [4] from 34 to 61 (fun s4 wy => s4 = .int .i64 0 ∧ ∃ b cap1, Aside0 (MqAt W wy (orNew S W) gb pb (.slice (some ⟨b, 0, none⟩) (us.length + 1) cap1) now (loB (sqF now.cells 0)) (hiB (sqF now.cells 0)) (loB (sqF now.cells 1)) (hiB (sqF now.cells 1)) (us ++ [⟨(ma, mb), c, now.clock, now.full⟩]) ⟨(ma : Int), (mb : Int)⟩ q qb))
  case first =>
    refine wp_region_held_drew (S := (fun V => V.cell? ⟨gb, 0, none⟩ = some (.pointer (some ⟨pb, 0, none⟩)) ∧ V.cell? ⟨gb, 3, none⟩ = some (.int .i64 now.clock) ∧ V.cell? ⟨gb, 4, none⟩ = some (.int .i64 now.full) ∧ V.cell? ⟨W.heap.size, 0, none⟩ = some (.int .i64 (ma : Int)) ∧ V.cell? ⟨W.heap.size, 1, none⟩ = some (.int .i64 (mb : Int)))) (by kernel_rfl) ?_ (fun hHeld => ?_)
    · (try dsimp only)
      go_keep
    refine wpAnyH_take (i := 0) (v := ?_) rfl (by kernel_rfl) (by kernel_rfl) (by kernel_rfl) (fun _ _ _ h => h) (Or.inl ⟨by rfl, ?_⟩) (by assumption) ?_
    rotate_left
    · (intro w hSw; (try dsimp only at hSw); go_simp); (try with_reducible rfl)
    (try simp only [Act.put, List.setIfInBounds_toArray, List.set_cons_zero, List.set_cons_succ])
    refine wpAnyH_take (i := 1) (v := ?_) rfl (by kernel_rfl) (by kernel_rfl) (by kernel_rfl) (fun _ _ _ h => h) (Or.inl ⟨by rfl, ?_⟩) (by assumption) ?_
    rotate_left
    · (intro w hSw; (try dsimp only at hSw); go_simp); (try with_reducible rfl)
    (try simp only [Act.put, List.setIfInBounds_toArray, List.set_cons_zero, List.set_cons_succ])
    refine wpAnyH_take (i := 2) (v := ?_) rfl (by kernel_rfl) (by kernel_rfl) (by kernel_rfl) (fun _ _ _ h => h) (Or.inl ⟨by rfl, ?_⟩) (by assumption) ?_
    rotate_left
    · (intro w hSw; (try dsimp only at hSw); go_simp); (try with_reducible rfl)
    (try simp only [Act.put, List.setIfInBounds_toArray, List.set_cons_zero, List.set_cons_succ])
    refine wpAnyH_take (i := 3) (v := ?_) rfl (by kernel_rfl) (by kernel_rfl) (by kernel_rfl) (fun _ _ _ h => h) (Or.inl ⟨by rfl, ?_⟩) (by assumption) ?_
    rotate_left
    · (intro w hSw; (try dsimp only at hSw); go_simp); (try with_reducible rfl)
    (try simp only [Act.put, List.setIfInBounds_toArray, List.set_cons_zero, List.set_cons_succ])
    refine wpAnyH_take (i := 4) (v := ?_) rfl (by kernel_rfl) (by kernel_rfl) (by kernel_rfl) (fun _ _ _ h => h) (Or.inl ⟨by rfl, ?_⟩) (by assumption) ?_
    rotate_left
    · (intro w hSw; (try dsimp only at hSw); go_simp); (try with_reducible rfl)
    (try simp only [Act.put, List.setIfInBounds_toArray, List.set_cons_zero, List.set_cons_succ])
    refine wpAnyH_take (i := 5) (v := ?_) rfl (by kernel_rfl) (by kernel_rfl) (by kernel_rfl) (fun _ _ _ h => h) (Or.inl ⟨by rfl, ?_⟩) (by assumption) ?_
    rotate_left
    · (intro w hSw; (try dsimp only at hSw); go_simp); (try with_reducible rfl)
    (try simp only [Act.put, List.setIfInBounds_toArray, List.set_cons_zero, List.set_cons_succ])
    refine wpAnyH_take (i := 6) (v := ?_) rfl (by kernel_rfl) (by kernel_rfl) (by kernel_rfl) (fun _ _ _ h => h) (Or.inl ⟨by rfl, ?_⟩) (by assumption) ?_
    rotate_left
    · (intro w hSw; (try dsimp only at hSw); go_simp); (try with_reducible rfl)
    (try simp only [Act.put, List.setIfInBounds_toArray, List.set_cons_zero, List.set_cons_succ])
    refine wpAnyH_take (i := 7) (v := ?_) rfl (by kernel_rfl) (by kernel_rfl) (by kernel_rfl) (fun _ _ _ h => h) (Or.inl ⟨by rfl, ?_⟩) (by assumption) ?_
    rotate_left
    · (intro w hSw; (try dsimp only at hSw); go_simp); (try with_reducible rfl)
    (try simp only [Act.put, List.setIfInBounds_toArray, List.set_cons_zero, List.set_cons_succ])
    refine wpAnyH_take (i := 8) (v := ?_) rfl (by kernel_rfl) (by kernel_rfl) (by kernel_rfl) (fun _ _ _ h => h) (Or.inl ⟨by rfl, ?_⟩) (by assumption) ?_
    rotate_left
    · (intro w hSw; (try dsimp only at hSw); go_simp); (try with_reducible rfl)
    (try simp only [Act.put, List.setIfInBounds_toArray, List.set_cons_zero, List.set_cons_succ])
    refine wpAnyH_take (i := 9) (v := ?_) rfl (by kernel_rfl) (by kernel_rfl) (by kernel_rfl) (fun _ _ _ h => h) (Or.inl ⟨by rfl, ?_⟩) (by assumption) ?_
    rotate_left
    · (intro w hSw; (try dsimp only at hSw); go_simp); (try with_reducible rfl)
    (try simp only [Act.put, List.setIfInBounds_toArray, List.set_cons_zero, List.set_cons_succ])
    refine wpAnyH_take (i := 11) (v := ?_) rfl (by kernel_rfl) (by kernel_rfl) (by kernel_rfl) (fun _ _ _ h => h) (Or.inl ⟨by rfl, ?_⟩) (by assumption) ?_
    rotate_left
    · (intro w hSw; (try dsimp only at hSw); go_simp); (try with_reducible rfl)
    (try simp only [Act.put, List.setIfInBounds_toArray, List.set_cons_zero, List.set_cons_succ])
    refine wpAnyH_take (i := 12) (v := ?_) rfl (by kernel_rfl) (by kernel_rfl) (by kernel_rfl) (fun _ _ _ h => h) (Or.inl ⟨by rfl, ?_⟩) (by assumption) ?_
    rotate_left
    · (intro w hSw; (try dsimp only at hSw); go_simp); (try with_reducible rfl)
    (try simp only [Act.put, List.setIfInBounds_toArray, List.set_cons_zero, List.set_cons_succ])
    refine wpAnyH_take (i := 13) (v := ?_) rfl (by kernel_rfl) (by kernel_rfl) (by kernel_rfl) (fun _ _ _ h => h) (Or.inl ⟨by rfl, ?_⟩) (by assumption) ?_
    rotate_left
    · (intro w hSw; (try dsimp only at hSw); go_simp); (try with_reducible rfl)
    (try simp only [Act.put, List.setIfInBounds_toArray, List.set_cons_zero, List.set_cons_succ])
    refine wpAnyH_take (i := 14) (v := ?_) rfl (by kernel_rfl) (by kernel_rfl) (by kernel_rfl) (fun _ _ _ h => h) (Or.inl ⟨by rfl, ?_⟩) (by assumption) ?_
    rotate_left
    · (intro w hSw; (try dsimp only at hSw); go_simp); (try with_reducible rfl)
    (try simp only [Act.put, List.setIfInBounds_toArray, List.set_cons_zero, List.set_cons_succ])
    refine wpAnyH_take (i := 15) (v := ?_) rfl (by kernel_rfl) (by kernel_rfl) (by kernel_rfl) (fun _ _ _ h => h) (Or.inl ⟨by rfl, ?_⟩) (by assumption) ?_
    rotate_left
    · (intro w hSw; (try dsimp only at hSw); go_simp); (try with_reducible rfl)
    (try simp only [Act.put, List.setIfInBounds_toArray, List.set_cons_zero, List.set_cons_succ])
    refine wpAnyH_take (i := 16) (v := ?_) rfl (by kernel_rfl) (by kernel_rfl) (by kernel_rfl) (fun _ _ _ h => h) (Or.inl ⟨by rfl, ?_⟩) (by assumption) ?_
    rotate_left
    · (intro w hSw; (try dsimp only at hSw); go_simp); (try with_reducible rfl)
    (try simp only [Act.put, List.setIfInBounds_toArray, List.set_cons_zero, List.set_cons_succ])
    refine wpAnyH_take (i := 17) (v := ?_) rfl (by kernel_rfl) (by kernel_rfl) (by kernel_rfl) (fun _ _ _ h => h) (Or.inl ⟨by rfl, ?_⟩) (by assumption) ?_
    rotate_left
    · (intro w hSw; (try dsimp only at hSw); go_simp); (try with_reducible rfl)
    (try simp only [Act.put, List.setIfInBounds_toArray, List.set_cons_zero, List.set_cons_succ])
    refine wpAnyH_take (i := 18) (v := ?_) rfl (by kernel_rfl) (by kernel_rfl) (by kernel_rfl) (fun _ _ _ h => h) (Or.inl ⟨by rfl, ?_⟩) (by assumption) ?_
    rotate_left
    · (intro w hSw; (try dsimp only at hSw); go_simp); (try with_reducible rfl)
    (try simp only [Act.put, List.setIfInBounds_toArray, List.set_cons_zero, List.set_cons_succ])
    refine wpAnyH_take (i := 19) (v := ?_) rfl (by kernel_rfl) (by kernel_rfl) (by kernel_rfl) (fun _ _ _ h => h) (Or.inl ⟨by rfl, ?_⟩) (by assumption) ?_
    rotate_left
    · (intro w hSw; (try dsimp only at hSw); go_simp); (try with_reducible rfl)
    (try simp only [Act.put, List.setIfInBounds_toArray, List.set_cons_zero, List.set_cons_succ])
    refine wpAnyH_take (i := 20) (v := ?_) rfl (by kernel_rfl) (by kernel_rfl) (by kernel_rfl) (fun _ _ _ h => h) (Or.inl ⟨by rfl, ?_⟩) (by assumption) ?_
    rotate_left
    · (intro w hSw; (try dsimp only at hSw); go_simp); (try with_reducible rfl)
    (try simp only [Act.put, List.setIfInBounds_toArray, List.set_cons_zero, List.set_cons_succ])
    refine wpAnyH_take (i := 21) (v := ?_) rfl (by kernel_rfl) (by kernel_rfl) (by kernel_rfl) (fun _ _ _ h => h) (Or.inl ⟨by rfl, ?_⟩) (by assumption) ?_
    rotate_left
    · (intro w hSw; (try dsimp only at hSw); go_simp); (try with_reducible rfl)
    (try simp only [Act.put, List.setIfInBounds_toArray, List.set_cons_zero, List.set_cons_succ])
    refine wpAnyH_take (i := 22) (v := ?_) rfl (by kernel_rfl) (by kernel_rfl) (by kernel_rfl) (fun _ _ _ h => h) (Or.inl ⟨by rfl, ?_⟩) (by assumption) ?_
    rotate_left
    · (intro w hSw; (try dsimp only at hSw); go_simp); (try with_reducible rfl)
    (try simp only [Act.put, List.setIfInBounds_toArray, List.set_cons_zero, List.set_cons_succ])
    refine wpAnyH_take (i := 23) (v := ?_) rfl (by kernel_rfl) (by kernel_rfl) (by kernel_rfl) (fun _ _ _ h => h) (Or.inl ⟨by rfl, ?_⟩) (by assumption) ?_
    rotate_left
    · (intro w hSw; (try dsimp only at hSw); go_simp); (try with_reducible rfl)
    (try simp only [Act.put, List.setIfInBounds_toArray, List.set_cons_zero, List.set_cons_succ])
    refine wpAnyH_ready (rs := [10, 24]) (by kernel_rfl) (by simp) ?_
    refine AllReadyH.cons rfl (fun K hK => ?_) (AllReadyH.cons rfl (fun K hK => ?_) AllReadyH.nil)
    · go_simp
      refine hK.out _ _ ?_ (fun hHeld2 => ?_)
      · (try dsimp only)
        go_keep
      clear hK K
      (try simp only [Act.put, List.setIfInBounds_toArray, List.set_cons_zero, List.set_cons_succ])
      refine wpAnyH_ready (rs := [24]) (by kernel_rfl) (by simp) ?_
      refine AllReadyH.cons rfl (fun K hK => ?_) AllReadyH.nil
      go_simp
      refine hK.out _ _ ?_ (fun hHeld3 => ?_)
      · (try dsimp only)
        go_keep
      clear hK K
      (try simp only [Act.put, List.setIfInBounds_toArray, List.set_cons_zero, List.set_cons_succ])
      refine wpAnyH_ready (rs := [25]) (by kernel_rfl) (by simp) ?_
      refine AllReadyH.cons rfl (fun K hK => ?_) AllReadyH.nil
      (refine step_appU _ (by rfl) (.tmp 44) (.tmp 58) (by rfl) _ us (ma : Int) (mb : Int) now.clock now.full c ⟨(ma, mb), c, now.clock, now.full⟩ rfl (by rfl) (by rfl) HX.out.gm.row hlen ?_; intro b cap1 w4 hown hgrow hat; have HX4 := Aside0.mk (HX.out.append HOLD.out _ hgrow hown hat (n := us.length + 1) (by simp)); clear g0 g1 g2 g3 g4 g5 g6 g7 g8 gf p0 pf d0 d1; obtain ⟨g0, g3, g4, p0, pf, d0, d1⟩ := HX.out.grew HOLD.out _ hgrow; clear hown hgrow hat HX)
      refine hK.out _ _ ?_ (fun hHeld4 => ?_)
      · (try dsimp only)
        go_keep
      clear hK K
      (try simp only [Act.put, List.setIfInBounds_toArray, List.set_cons_zero, List.set_cons_succ])
      refine wpAnyH_take (i := 26) (v := ?_) rfl (by kernel_rfl) (by kernel_rfl) (by kernel_rfl) (fun _ _ _ h => h) (Or.inl ⟨by rfl, ?_⟩) (by assumption) ?_
      rotate_left
      · (intro w hSw; (try dsimp only at hSw); go_simp); (try with_reducible rfl)
      (try simp only [Act.put, List.setIfInBounds_toArray, List.set_cons_zero, List.set_cons_succ])
      refine wpAnyH_take (i := 27) (v := ?_) rfl (by kernel_rfl) (by kernel_rfl) (by kernel_rfl) (fun _ _ _ h => h) (Or.inl ⟨by rfl, ?_⟩) (by assumption) ?_
      rotate_left
      · (intro w hSw; (try dsimp only at hSw); go_simp); (try with_reducible rfl)
      (try simp only [Act.put, List.setIfInBounds_toArray, List.set_cons_zero, List.set_cons_succ])
      refine wpAnyH_ready (rs := [28]) (by kernel_rfl) (by simp) ?_
      refine AllReadyH.cons rfl (fun K hK => ?_) AllReadyH.nil
      go_simp
      refine hK.out _ _ ?_ (fun hHeld5 => ?_)
      · (try dsimp only)
        go_keep
      clear hK K
      (try simp only [Act.put, List.setIfInBounds_toArray, List.set_cons_zero, List.set_cons_succ])
      refine wpAnyH_done (by kernel_rfl) ?_ _
      go_wp2_with fail
      go_meet
      exact ⟨rfl, _, _, HX4⟩
    · go_simp
      refine hK.out _ _ ?_ (fun hHeld2 => ?_)
      · (try dsimp only)
        go_keep
      clear hK K
      (try simp only [Act.put, List.setIfInBounds_toArray, List.set_cons_zero, List.set_cons_succ])
      refine wpAnyH_ready (rs := [10]) (by kernel_rfl) (by simp) ?_
      refine AllReadyH.cons rfl (fun K hK => ?_) AllReadyH.nil
      go_simp
      refine hK.out _ _ ?_ (fun hHeld3 => ?_)
      · (try dsimp only)
        go_keep
      clear hK K
      (try simp only [Act.put, List.setIfInBounds_toArray, List.set_cons_zero, List.set_cons_succ])
      refine wpAnyH_ready (rs := [25]) (by kernel_rfl) (by simp) ?_
      refine AllReadyH.cons rfl (fun K hK => ?_) AllReadyH.nil
      (refine step_appU _ (by rfl) (.tmp 44) (.tmp 58) (by rfl) _ us (ma : Int) (mb : Int) now.clock now.full c ⟨(ma, mb), c, now.clock, now.full⟩ rfl (by rfl) (by rfl) HX.out.gm.row hlen ?_; intro b cap1 w4 hown hgrow hat; have HX4 := Aside0.mk (HX.out.append HOLD.out _ hgrow hown hat (n := us.length + 1) (by simp)); clear g0 g1 g2 g3 g4 g5 g6 g7 g8 gf p0 pf d0 d1; obtain ⟨g0, g3, g4, p0, pf, d0, d1⟩ := HX.out.grew HOLD.out _ hgrow; clear hown hgrow hat HX)
      refine hK.out _ _ ?_ (fun hHeld4 => ?_)
      · (try dsimp only)
        go_keep
      clear hK K
      (try simp only [Act.put, List.setIfInBounds_toArray, List.set_cons_zero, List.set_cons_succ])
      refine wpAnyH_take (i := 26) (v := ?_) rfl (by kernel_rfl) (by kernel_rfl) (by kernel_rfl) (fun _ _ _ h => h) (Or.inl ⟨by rfl, ?_⟩) (by assumption) ?_
      rotate_left
      · (intro w hSw; (try dsimp only at hSw); go_simp); (try with_reducible rfl)
      (try simp only [Act.put, List.setIfInBounds_toArray, List.set_cons_zero, List.set_cons_succ])
      refine wpAnyH_take (i := 27) (v := ?_) rfl (by kernel_rfl) (by kernel_rfl) (by kernel_rfl) (fun _ _ _ h => h) (Or.inl ⟨by rfl, ?_⟩) (by assumption) ?_
      rotate_left
      · (intro w hSw; (try dsimp only at hSw); go_simp); (try with_reducible rfl)
      (try simp only [Act.put, List.setIfInBounds_toArray, List.set_cons_zero, List.set_cons_succ])
      refine wpAnyH_ready (rs := [28]) (by kernel_rfl) (by simp) ?_
      refine AllReadyH.cons rfl (fun K hK => ?_) AllReadyH.nil
      go_simp
      refine hK.out _ _ ?_ (fun hHeld5 => ?_)
      · (try dsimp only)
        go_keep
      clear hK K
      (try simp only [Act.put, List.setIfInBounds_toArray, List.set_cons_zero, List.set_cons_succ])
      refine wpAnyH_done (by kernel_rfl) ?_ _
      go_wp2_with fail
      go_meet
      exact ⟨rfl, _, _, HX4⟩
  case rest =>
  obtain ⟨rfl, b, cap1, HX4⟩ := hcut
  clear g0 g1 g2 g3 g4 g5 g6 g7 g8 gf p0 pf d0 d1 nl1 nl2 nl3 nl4 nl5 nl6 nl7 hne2 hne HX
  rcases hok.sd with hs | hs
  · have HO : setF (putF (cutF (sqF now.cells 0) ma) mb) = setF (sqF q.cells 0) := by have h := hok.set_own; rw [hs] at h; exact h
    have HO2 : setF (cutF (sqF now.cells 1) mb) = setF (sqF q.cells 1) := by have h := hok.set_oth; rw [hs, show ((1 : Int) - 0) = 1 from rfl] at h; exact h
    have HW1 := Aside0.mk (fun V => without_c (sqF now.cells 0) ma ha V)
    have HW2 := Aside0.mk (fun V => with_c (cutF (sqF now.cells 0) ma) mb hb V)
    have HW3 := Aside0.mk (fun V => without_c (sqF now.cells 1) mb hb V)
    rw [HO] at HW2
    rw [HO2] at HW3
    clear HO HO2
    have a0 : 0 ≤ (ma : Int) := by omega
    have a1 : (ma : Int) < 90 := by omega
    have b0 : 0 ≤ (mb : Int) := by omega
    have b1 : (mb : Int) < 90 := by omega
    have HS := Aside0.mk hs
    have hz1 : IntKind.i64.wrap ((1 : Int) - 0) = 1 := by decide
    have hz2 : IntKind.i64.wrap ((1 : Int) - 1) = 0 := by decide
    have hz3 : IntKind.i64.wrap 1 = 1 := by decide
    have hz4 : IntKind.i64.wrap 0 = 0 := by decide
    clear hs hok ha hb
    unfold setF at HW1 HW2 HW3
    generalize hA : loB (sqF q.cells 0) = A2 at HW2 HW3
    generalize hB : hiB (sqF q.cells 0) = B2 at HW2 HW3
    generalize hC : loB (sqF q.cells 1) = C2 at HW2 HW3
    generalize hD : hiB (sqF q.cells 1) = D2 at HW2 HW3
    have HA := Aside0.mk hA
    have HB := Aside0.mk hB
    have HC := Aside0.mk hC
    have HD := Aside0.mk hD
    clear hA hB hC hD
    generalize loB (cutF (sqF now.cells 0) ma) = E1 at *
    generalize hiB (cutF (sqF now.cells 0) ma) = F1 at *
    generalize loB (sqF now.cells 0) = A0 at *
    generalize hiB (sqF now.cells 0) = B0 at *
    generalize loB (sqF now.cells 1) = C0 at *
    generalize hiB (sqF now.cells 1) = D0 at *
    obtain ⟨g0, g1, g2, g3, g4, g5, g6, g7, g8, gf, _, _, _, _, _, _, _⟩ := HX4.out.gm
    have d0 := HX4.out.d0
    have d1 := HX4.out.d1
    rw [HS.out] at g2
    have HX5 := Aside0.mk HX4.out.drew
    clear HX4
    go_wp2_with fail
    go_cut [4] from 67 to 83 (fun s4 wy => s4 = .int .i64 0 ∧ Aside0 (MqAt W wy (orNew S W) gb pb (.slice (some ⟨b, 0, none⟩) (us.length + 1) cap1) now A2 B2 C0 D0 (us ++ [⟨(ma, mb), c, now.clock, now.full⟩]) ⟨(ma : Int), (mb : Int)⟩ q qb))
    case first =>
      go_region_law
        (first
          | (go_simp; go_at_call 65; (with_reducible refine (HW1.out _).mono ?_); rintro e w6 ⟨rfl, hb⟩; have HX6 := Aside0.mk (HX5.out.below hb); clear HX5 hb g0 g1 g2 g3 g4 g5 g6 g7 g8 gf d0 d1; obtain ⟨g0, g1, g2, g3, g4, g5, g6, g7, g8, gf, _, _, _, _, _, _, _⟩ := HX6.out.gm; have d0 := HX6.out.d0; have d1 := HX6.out.d1)
          | (go_simp; go_at_call 66; (with_reducible refine (HW2.out _).mono ?_); rintro e w7 ⟨rfl, hb⟩; have HX7 := Aside0.mk (HX6.out.below hb); clear HX6 hb g0 g1 g2 g3 g4 g5 g6 g7 g8 gf d0 d1; obtain ⟨g0, g1, g2, g3, g4, g5, g6, g7, g8, gf, _, _, _, _, _, _, _⟩ := HX7.out.gm; have d0 := HX7.out.d0; have d1 := HX7.out.d1))
      all_goals
        go_wp2_with fail
        go_meet
        exact ⟨rfl, ⟨HX7.out.setRed A2 B2⟩⟩
    case rest =>
    obtain ⟨rfl, HX8⟩ := hcut
    clear HX5 g0 g1 g2 g3 g4 g5 g6 g7 g8 gf d0 d1
    obtain ⟨g0, g1, g2, g3, g4, g5, g6, g7, g8, gf, _, _, _, _, _, _, _⟩ := HX8.out.gm
    have d0 := HX8.out.d0
    have d1 := HX8.out.d1
    rw [HS.out] at g2
    have HX9 := Aside0.mk HX8.out.drew
    clear HX8
    go_wp2_with fail
    go_cut [4] from 84 to 99 (fun s4 wy => s4 = .int .i64 0 ∧ Aside0 (MqAt W wy (orNew S W) gb pb (.slice (some ⟨b, 0, none⟩) (us.length + 1) cap1) now A2 B2 C2 D2 (us ++ [⟨(ma, mb), c, now.clock, now.full⟩]) ⟨(ma : Int), (mb : Int)⟩ q qb))
    case first =>
      go_region_law
        ((go_simp; go_at_call 65; (with_reducible refine (HW3.out _).mono ?_); rintro e w10 ⟨rfl, hb⟩; have HX10 := Aside0.mk (HX9.out.below hb); clear HX9 hb g0 g1 g2 g3 g4 g5 g6 g7 g8 gf d0 d1; obtain ⟨g0, g1, g2, g3, g4, g5, g6, g7, g8, gf, _, _, _, _, _, _, _⟩ := HX10.out.gm; have d0 := HX10.out.d0; have d1 := HX10.out.d1))
      all_goals
        go_wp2_with fail
        go_meet
        exact ⟨rfl, ⟨HX10.out.setBlack C2 D2⟩⟩
    case rest =>
    obtain ⟨rfl, HX11⟩ := hcut
    clear HX9 g0 g1 g2 g3 g4 g5 g6 g7 g8 gf d0 d1
    obtain ⟨g0, g1, g2, g3, g4, g5, g6, g7, g8, gf, _, _, _, _, _, _, _⟩ := HX11.out.gm
    obtain ⟨f0, f1, f2, f3⟩ := HX11.out.qx
    go_wp2_with fail
    go_ret
    rw [HRA.out]
    exact HX11.out.fin HA.out HB.out HC.out HD.out
  · have HO : setF (putF (cutF (sqF now.cells 1) ma) mb) = setF (sqF q.cells 1) := by have h := hok.set_own; rw [hs] at h; exact h
    have HO2 : setF (cutF (sqF now.cells 0) mb) = setF (sqF q.cells 0) := by have h := hok.set_oth; rw [hs, show ((1 : Int) - 1) = 0 from rfl] at h; exact h
    have HW1 := Aside0.mk (fun V => without_c (sqF now.cells 1) ma ha V)
    have HW2 := Aside0.mk (fun V => with_c (cutF (sqF now.cells 1) ma) mb hb V)
    have HW3 := Aside0.mk (fun V => without_c (sqF now.cells 0) mb hb V)
    rw [HO] at HW2
    rw [HO2] at HW3
    clear HO HO2
    have a0 : 0 ≤ (ma : Int) := by omega
    have a1 : (ma : Int) < 90 := by omega
    have b0 : 0 ≤ (mb : Int) := by omega
    have b1 : (mb : Int) < 90 := by omega
    have HS := Aside0.mk hs
    have hz1 : IntKind.i64.wrap ((1 : Int) - 0) = 1 := by decide
    have hz2 : IntKind.i64.wrap ((1 : Int) - 1) = 0 := by decide
    have hz3 : IntKind.i64.wrap 1 = 1 := by decide
    have hz4 : IntKind.i64.wrap 0 = 0 := by decide
    clear hs hok ha hb
    unfold setF at HW1 HW2 HW3
    generalize hA : loB (sqF q.cells 0) = A2 at HW2 HW3
    generalize hB : hiB (sqF q.cells 0) = B2 at HW2 HW3
    generalize hC : loB (sqF q.cells 1) = C2 at HW2 HW3
    generalize hD : hiB (sqF q.cells 1) = D2 at HW2 HW3
    have HA := Aside0.mk hA
    have HB := Aside0.mk hB
    have HC := Aside0.mk hC
    have HD := Aside0.mk hD
    clear hA hB hC hD
    generalize loB (cutF (sqF now.cells 1) ma) = E1 at *
    generalize hiB (cutF (sqF now.cells 1) ma) = F1 at *
    generalize loB (sqF now.cells 0) = A0 at *
    generalize hiB (sqF now.cells 0) = B0 at *
    generalize loB (sqF now.cells 1) = C0 at *
    generalize hiB (sqF now.cells 1) = D0 at *
    obtain ⟨g0, g1, g2, g3, g4, g5, g6, g7, g8, gf, _, _, _, _, _, _, _⟩ := HX4.out.gm
    have d0 := HX4.out.d0
    have d1 := HX4.out.d1
    rw [HS.out] at g2
    have HX5 := Aside0.mk HX4.out.drew
    clear HX4
    go_wp2_with fail
    go_cut [4] from 67 to 83 (fun s4 wy => s4 = .int .i64 0 ∧ Aside0 (MqAt W wy (orNew S W) gb pb (.slice (some ⟨b, 0, none⟩) (us.length + 1) cap1) now A0 B0 C2 D2 (us ++ [⟨(ma, mb), c, now.clock, now.full⟩]) ⟨(ma : Int), (mb : Int)⟩ q qb))
    case first =>
      go_region_law
        (first
          | (go_simp; go_at_call 65; (with_reducible refine (HW1.out _).mono ?_); rintro e w6 ⟨rfl, hb⟩; have HX6 := Aside0.mk (HX5.out.below hb); clear HX5 hb g0 g1 g2 g3 g4 g5 g6 g7 g8 gf d0 d1; obtain ⟨g0, g1, g2, g3, g4, g5, g6, g7, g8, gf, _, _, _, _, _, _, _⟩ := HX6.out.gm; have d0 := HX6.out.d0; have d1 := HX6.out.d1)
          | (go_simp; go_at_call 66; (with_reducible refine (HW2.out _).mono ?_); rintro e w7 ⟨rfl, hb⟩; have HX7 := Aside0.mk (HX6.out.below hb); clear HX6 hb g0 g1 g2 g3 g4 g5 g6 g7 g8 gf d0 d1; obtain ⟨g0, g1, g2, g3, g4, g5, g6, g7, g8, gf, _, _, _, _, _, _, _⟩ := HX7.out.gm; have d0 := HX7.out.d0; have d1 := HX7.out.d1))
      all_goals
        go_wp2_with fail
        go_meet
        exact ⟨rfl, ⟨HX7.out.setBlack C2 D2⟩⟩
    case rest =>
    obtain ⟨rfl, HX8⟩ := hcut
    clear HX5 g0 g1 g2 g3 g4 g5 g6 g7 g8 gf d0 d1
    obtain ⟨g0, g1, g2, g3, g4, g5, g6, g7, g8, gf, _, _, _, _, _, _, _⟩ := HX8.out.gm
    have d0 := HX8.out.d0
    have d1 := HX8.out.d1
    rw [HS.out] at g2
    have HX9 := Aside0.mk HX8.out.drew
    clear HX8
    go_wp2_with fail
    go_cut [4] from 84 to 99 (fun s4 wy => s4 = .int .i64 0 ∧ Aside0 (MqAt W wy (orNew S W) gb pb (.slice (some ⟨b, 0, none⟩) (us.length + 1) cap1) now A2 B2 C2 D2 (us ++ [⟨(ma, mb), c, now.clock, now.full⟩]) ⟨(ma : Int), (mb : Int)⟩ q qb))
    case first =>
      go_region_law
        ((go_simp; go_at_call 65; (with_reducible refine (HW3.out _).mono ?_); rintro e w10 ⟨rfl, hb⟩; have HX10 := Aside0.mk (HX9.out.below hb); clear HX9 hb g0 g1 g2 g3 g4 g5 g6 g7 g8 gf d0 d1; obtain ⟨g0, g1, g2, g3, g4, g5, g6, g7, g8, gf, _, _, _, _, _, _, _⟩ := HX10.out.gm; have d0 := HX10.out.d0; have d1 := HX10.out.d1))
      all_goals
        go_wp2_with fail
        go_meet
        exact ⟨rfl, ⟨HX10.out.setRed A2 B2⟩⟩
    case rest =>
    obtain ⟨rfl, HX11⟩ := hcut
    clear HX9 g0 g1 g2 g3 g4 g5 g6 g7 g8 gf d0 d1
    obtain ⟨g0, g1, g2, g3, g4, g5, g6, g7, g8, gf, _, _, _, _, _, _, _⟩ := HX11.out.gm
    obtain ⟨f0, f1, f2, f3⟩ := HX11.out.qx
    go_wp2_with fail
    go_ret
    rw [HRA.out]
    exact HX11.out.fin HA.out HB.out HC.out HD.out
end Go.Proofs.YtgmlojocafepiaaGreatDoor.K
