/- Walks and plain laws that several statements lean on, joined: no statement of the seat is proved here. -/
import Derived.Test.YtafmapadkpjliaaGreatDoorBW
import Derived.Lib.Hide
import Derived.Lib.SliceRun
import Derived.Shelf.Abstract
import Derived.Deep.RegionHeld3
import Derived.Deep.AppendLies
import Derived.Deep.LoopGhost
import Derived.Test.YtafmapadkpjliaaGreatDoorB3
import Derived.Test.YtafmapadkpjliaaGreatDoorB1

/- Plain law: what the ways of all pieces gather, and that All of it is the document's. -/
namespace Go.Proofs.YtafmapadkpjliaaGreatDoor.K
open Go.RowKit Go.Lib Go.Proofs.YtafmapadkpjliaaGreatDoor.Sp
set_option linter.unusedVariables false
set_option linter.unusedSimpArgs false
/-- Whether a piece may stand on what may be a square; whether nothing stands there. -/
def mayZ (x : Nat) (y : Int) : Bool := decide (0 ≤ y ∧ y < 90) && mayN x y.toNat
def emptyZ (s : ByteArray) (y : Int) : Bool := decide (0 ≤ y ∧ y < 90) && (cel s y.toNat == 46)
def horseAdd (s : ByteArray) (n : Nat) (w : Int × Int) : List Int := if emptyZ s (stepN n w.1 w.2) = true then horseL n w else []
def em (s : ByteArray) (x : Nat) : Bool := cel s x == 46
def hd (l : List Nat) : Int := match l.head? with | some x => (x : Int) | none => -1
def ints (l : List Nat) : List Int := l.map (fun n : Nat => (n : Int))
/-- The free squares of a way, the first piece, the second one. -/
def freeL (s : ByteArray) (n : Nat) (w : Int × Int) : List Nat := (rayN n w).takeWhile (em s)
def firstZ (s : ByteArray) (n : Nat) (w : Int × Int) : Int := hd ((rayN n w).dropWhile (em s))
def secondZ (s : ByteArray) (n : Nat) (w : Int × Int) : Int := hd (((rayN n w).dropWhile (em s)).tail.dropWhile (em s))
def lineAdd (s : ByteArray) (n : Nat) (b : Bool) (w : Int × Int) : List Int := ints (freeL s n w) ++ [if b = true then secondZ s n w else firstZ s n w]
def halfZ (a : Nat) (y : Int) : Int := Int.tdiv ((a : Int) + y) 2
def wayZ (s : ByteArray) (a : Nat) : List Int :=
  if kindN (cel s a) = 75 then (kingL a).filter (mayZ (cel s a))
  else if kindN (cel s a) = 65 then (fourL a 1).filter (mayZ (cel s a))
  else if kindN (cel s a) = 66 then ((fourL a 2).filter (mayZ (cel s a))).filter (fun y => emptyZ s (halfZ a y))
  else if kindN (cel s a) = 78 then dirs.flatMap (horseAdd s a)
  else if kindN (cel s a) = 82 then dirs.flatMap (lineAdd s a false)
  else if kindN (cel s a) = 67 then dirs.flatMap (lineAdd s a true)
  else if kindN (cel s a) = 80 then pawnL (sideN (cel s a)) a
  else []
/-- What a way's list owes. -/
def WayOk (c : Nat → Nat) (n : Nat) (l : List Int) : Prop := (∀ t : Nat, t < 90 → ((t : Int) ∈ l ↔ canN c n t = true)) ∧ (∀ y ∈ l, -1 ≤ y ∧ y < 90) ∧ l.length ≤ 1000
theorem mem_may (x : Nat) (l : List Int) (t : Nat) (ht : t < 90) : (t : Int) ∈ l.filter (mayZ x) ↔ (t : Int) ∈ l ∧ mayN x t = true := by
  rw [List.mem_filter]; unfold mayZ
  have : (0 : Int) ≤ (t : Int) ∧ (t : Int) < 90 := by omega
  simp [this]
theorem range_may (x : Nat) (l : List Int) : ∀ y ∈ l.filter (mayZ x), 0 ≤ y ∧ y < 90 := by
  intro y hy
  have := (List.mem_filter.1 hy).2
  unfold mayZ at this
  simp only [Bool.and_eq_true, decide_eq_true_eq] at this
  exact this.1
theorem king_ok (s : ByteArray) (n : Nat) (hn : n < 90) (hk : kindN (cel s n) = 75) : WayOk (cel s) n ((kingL n).filter (mayZ (cel s n))) := by
  refine ⟨fun t ht => ?_, fun y hy => by have := range_may _ _ y hy; omega, Nat.le_trans (List.length_filter_le _ _) (by simp [kingL])⟩
  rw [mem_may _ _ _ ht]
  unfold canN
  rw [if_pos hk]
  have := king_geo ⟨n, hn⟩ ⟨t, ht⟩
  simp only at this
  simp only [Bool.and_eq_true, beq_iff_eq]
  rw [this]
theorem advisor_ok (s : ByteArray) (n : Nat) (hn : n < 90) (hk : kindN (cel s n) = 65) : WayOk (cel s) n ((fourL n 1).filter (mayZ (cel s n))) := by
  refine ⟨fun t ht => ?_, fun y hy => by have := range_may _ _ y hy; omega, Nat.le_trans (List.length_filter_le _ _) (by simp [fourL])⟩
  rw [mem_may _ _ _ ht]
  unfold canN
  rw [if_neg (by omega), if_pos hk]
  have := adv_geo ⟨n, hn⟩ ⟨t, ht⟩
  simp only at this
  simp only [Bool.and_eq_true, beq_iff_eq]
  rw [this]
theorem half_at (n t : Nat) : halfZ n (t : Int) = (((n + t) / 2 : Nat) : Int) := by
  unfold halfZ
  rw [Int.tdiv_eq_ediv_of_nonneg (by omega)]; omega
theorem elephant_ok (s : ByteArray) (n : Nat) (hn : n < 90) (hk : kindN (cel s n) = 66) : WayOk (cel s) n (((fourL n 2).filter (mayZ (cel s n))).filter (fun y => emptyZ s (halfZ n y))) := by
  refine ⟨fun t ht => ?_, fun y hy => by have := range_may _ _ y (List.mem_filter.1 hy).1; omega, Nat.le_trans (List.length_filter_le _ _) (Nat.le_trans (List.length_filter_le _ _) (by simp [fourL]))⟩
  rw [List.mem_filter, mem_may _ _ _ ht, half_at]
  unfold canN emptyZ
  rw [if_neg (by omega), if_neg (by omega), if_pos hk]
  have := ele_geo ⟨n, hn⟩ ⟨t, ht⟩
  simp only at this
  rw [this]
  have hd : (0 : Int) ≤ (((n + t) / 2 : Nat) : Int) ∧ (((n + t) / 2 : Nat) : Int) < 90 := by omega
  simp only [Bool.and_eq_true, beq_iff_eq, decide_eq_true_eq, Int.toNat_natCast]
  constructor
  · rintro ⟨⟨⟨a, b⟩, c⟩, d, e⟩; exact ⟨⟨⟨a, b⟩, c⟩, e⟩
  · rintro ⟨⟨⟨a, b⟩, c⟩, e⟩; exact ⟨⟨⟨a, b⟩, c⟩, hd, e⟩
theorem horse_ok (s : ByteArray) (n : Nat) (hn : n < 90) (hk : kindN (cel s n) = 78) : WayOk (cel s) n (dirs.flatMap (horseAdd s n)) := by
  refine ⟨fun t ht => ?_, fun y hy => ?_, ?_⟩
  · unfold canN
    rw [if_neg (by omega), if_neg (by omega), if_neg (by omega), if_pos hk]
    have hg := horse_geo ⟨n, hn⟩ ⟨t, ht⟩
    simp only at hg
    rw [List.mem_flatMap]
    unfold horseN
    rw [show ((away (n % 9) (t % 9) == 1 && away (n / 9) (t / 9) == 2) || (away (n % 9) (t % 9) == 2 && away (n / 9) (t / 9) == 1)) = horseP n t from rfl, Bool.and_eq_true, beq_iff_eq]
    constructor
    · rintro ⟨w, hw, hm⟩
      unfold horseAdd at hm
      split at hm
      · rename_i hc
        obtain ⟨h1, h2⟩ := hg.1 w hw hm
        refine ⟨h1, ?_⟩
        unfold emptyZ at hc
        simp only [Bool.and_eq_true, beq_iff_eq] at hc
        rw [h2] at hc
        simpa using hc.2
      · cases hm
    · rintro ⟨h1, h2⟩
      obtain ⟨w, hw, hm⟩ := hg.2 h1
      obtain ⟨_, h3⟩ := hg.1 w hw hm
      have hr := horse_range ⟨n, hn⟩ w hw
      refine ⟨w, hw, ?_⟩
      unfold horseAdd emptyZ
      rw [if_pos]
      · exact hm
      · have := hr.2.2
        simp only at this
        rw [h3] at this ⊢
        simp [h2]; omega
  · obtain ⟨w, hw, hm⟩ := List.mem_flatMap.1 hy
    unfold horseAdd at hm
    split at hm
    · exact (horse_range ⟨n, hn⟩ w hw).1 y hm
    · cases hm
  · have h2 : ∀ w, (horseAdd s n w).length ≤ 2 := fun w => by unfold horseAdd; split <;> simp [horseL]
    have a := h2 (1, 0); have b := h2 (-1, 0); have c := h2 (0, 1); have d := h2 (0, -1)
    simp only [dirs, List.flatMap_cons, List.flatMap_nil, List.length_append, List.length_nil]
    omega
theorem hd_eq (l : List Nat) (t : Nat) : hd l = (t : Int) ↔ l.head? = some t := by
  unfold hd
  cases l.head? with
  | none => simp
  | some x => simp; omega
theorem free_len (s : ByteArray) (n : Nat) (hn : n < 90) (w : Int × Int) (hw : w ∈ dirs) : (freeL s n w).length ≤ 9 := by
  have hlen : (rayN n w).length ≤ 9 := (ray_geo ⟨n, hn⟩ w hw).2.1
  exact Nat.le_trans (List.takeWhile_sublist (em s) (l := rayN n w)).length_le hlen
theorem lineAdd_len (s : ByteArray) (n : Nat) (hn : n < 90) (b : Bool) (w : Int × Int) (hw : w ∈ dirs) : (lineAdd s n b w).length ≤ 10 := by
  have := free_len s n hn w hw
  simp [lineAdd, ints]; omega
theorem mem_lineAdd (s : ByteArray) (n : Nat) (b : Bool) (w : Int × Int) (t : Nat) : (t : Int) ∈ lineAdd s n b w ↔ t ∈ (rayN n w).takeWhile (em s) ∨ (if b = true then (((rayN n w).dropWhile (em s)).tail.dropWhile (em s)).head? = some t else ((rayN n w).dropWhile (em s)).head? = some t) := by
  unfold lineAdd ints freeL firstZ secondZ
  rw [List.mem_append, List.mem_map, List.mem_singleton]
  have e : (∃ a ∈ (rayN n w).takeWhile (em s), ((a : Nat) : Int) = (t : Int)) ↔ t ∈ (rayN n w).takeWhile (em s) := by
    constructor
    · rintro ⟨a, h1, h2⟩
      have : a = t := by omega
      exact this ▸ h1
    · intro h; exact ⟨t, h, rfl⟩
  rw [e]
  cases b with
  | true => rw [if_pos rfl, if_pos rfl, eq_comm, hd_eq]
  | false => rw [if_neg (by simp), if_neg (by simp), eq_comm, hd_eq]
theorem ray_lt (n : Nat) (hn : n < 90) (w : Int × Int) (hw : w ∈ dirs) : ∀ t ∈ rayN n w, t < 90 := by
  obtain ⟨g1, g2, g3⟩ := ray_geo ⟨n, hn⟩ w hw
  intro t ht
  obtain ⟨j, hj, rfl⟩ := List.getElem_of_mem ht
  simp only at g2
  exact (g3 ⟨j, by omega⟩ _ (by simp only; rw [List.getElem?_eq_getElem hj]; rfl)).2
theorem lineAdd_range (s : ByteArray) (n : Nat) (hn : n < 90) (b : Bool) (w : Int × Int) (hw : w ∈ dirs) : ∀ y ∈ lineAdd s n b w, -1 ≤ y ∧ y < 90 := by
  have hall := ray_lt n hn w hw
  have hhd : ∀ l : List Nat, (∀ t ∈ l, t < 90) → -1 ≤ hd l ∧ hd l < 90 := by
    intro l hl
    unfold hd
    cases l with
    | nil => simp
    | cons x l => have := hl x List.mem_cons_self; simp; omega
  have hsub : ∀ t ∈ (rayN n w).dropWhile (em s), t < 90 := fun t ht => hall t ((List.dropWhile_sublist _).mem ht)
  have hsub2 : ∀ t ∈ (((rayN n w).dropWhile (em s)).tail.dropWhile (em s)), t < 90 := fun t ht => hsub t (List.mem_of_mem_tail ((List.dropWhile_sublist _).mem ht))
  intro y hy
  unfold lineAdd ints freeL firstZ secondZ at hy
  rw [List.mem_append, List.mem_map, List.mem_singleton] at hy
  rcases hy with ⟨t, ht, rfl⟩ | rfl
  · have := hall t ((List.takeWhile_sublist _).mem ht); omega
  · split
    · exact hhd _ hsub2
    · exact hhd _ hsub
theorem betw_count (s : ByteArray) (n t : Nat) (hn : n < 90) (ht : t < 90) (v : Nat) : betwN (cel s) n t = (v : Int) ↔ ∃ w ∈ dirs, ∃ j, (rayN n w)[j]? = some t ∧ ((rayN n w).take j).countP (fun x => !em s x) = v := by
  have hcnt : ∀ l l' : List Nat, (l = l' ∨ l = l'.reverse) → l.countP (fun i => cel s i != 46) = l'.countP (fun x => !em s x) := by
    intro l l' h
    have e : (fun i => cel s i != 46) = (fun x => !em s x) := by funext x; simp [em, bne]
    rw [e]
    rcases h with rfl | rfl
    · rfl
    · exact (List.reverse_perm l').countP_eq _
  unfold betwN
  constructor
  · intro h
    by_cases h1 : n = t
    · rw [if_pos h1] at h; omega
    rw [if_neg h1] at h
    by_cases h2 : n / 9 = t / 9 ∨ n % 9 = t % 9
    · rw [if_pos h2] at h
      obtain ⟨w, hw, j, hj, hl⟩ := betw_ray ⟨n, hn⟩ ⟨t, ht⟩ ⟨h1, h2⟩
      refine ⟨w, hw, j.1, hj, ?_⟩
      rw [← hcnt _ _ hl]
      simp only; omega
    · rw [if_neg h2] at h; omega
  · rintro ⟨w, hw, j, hj, hc⟩
    have hlen : (rayN n w).length ≤ 9 := (ray_geo ⟨n, hn⟩ w hw).2.1
    have hj9 : j < 9 := by have := (List.getElem?_eq_some_iff.1 hj).1; omega
    obtain ⟨h1, h2, hl⟩ : n ≠ t ∧ (n / 9 = t / 9 ∨ n % 9 = t % 9) ∧ (betwL n t = (rayN n w).take j ∨ betwL n t = ((rayN n w).take j).reverse) := ray_betw ⟨n, hn⟩ w hw ⟨j, hj9⟩ t (by simp only; rw [hj]; rfl)
    rw [if_neg h1, if_pos h2, hcnt _ _ hl]
    omega
theorem em_true (s : ByteArray) (t : Nat) : em s t = true ↔ cel s t = 46 := by simp [em]
theorem em_false (s : ByteArray) (t : Nat) : em s t = false ↔ ¬ cel s t = 46 := by simp [em]
theorem lines_len (s : ByteArray) (n : Nat) (hn : n < 90) (b : Bool) : (dirs.flatMap (lineAdd s n b)).length ≤ 40 := by
  have h2 := fun w hw => lineAdd_len s n hn b w hw
  have a := h2 (1, 0) (by decide); have b := h2 (-1, 0) (by decide); have c := h2 (0, 1) (by decide); have d := h2 (0, -1) (by decide)
  simp only [dirs, List.flatMap_cons, List.flatMap_nil, List.length_append, List.length_nil]
  omega
theorem chariot_ok (s : ByteArray) (n : Nat) (hn : n < 90) (hk : kindN (cel s n) = 82) : WayOk (cel s) n (dirs.flatMap (lineAdd s n false)) := by
  refine ⟨fun t ht => ?_, fun y hy => ?_, Nat.le_trans (lines_len s n hn false) (by omega)⟩
  · rw [List.mem_flatMap]
    unfold canN
    rw [if_neg (by omega), if_neg (by omega), if_neg (by omega), if_neg (by omega), if_pos hk, beq_iff_eq]
    rw [show (betwN (cel s) n t = 0) = (betwN (cel s) n t = ((0 : Nat) : Int)) from rfl, betw_count s n t hn ht]
    constructor
    · rintro ⟨w, hw, hm⟩
      rw [mem_lineAdd, if_neg (by simp), mem_free, mem_first] at hm
      rcases hm with ⟨j, a, b, _⟩ | ⟨j, a, b, _⟩ <;> exact ⟨w, hw, j, a, b⟩
    · rintro ⟨w, hw, j, a, b⟩
      refine ⟨w, hw, ?_⟩
      rw [mem_lineAdd, if_neg (by simp), mem_free, mem_first]
      cases he : em s t with
      | true => exact .inl ⟨j, a, b, rfl⟩
      | false => exact .inr ⟨j, a, b, rfl⟩
  · obtain ⟨w, hw, hm⟩ := List.mem_flatMap.1 hy
    exact lineAdd_range s n hn false w hw y hm
theorem cannon_ok (s : ByteArray) (n : Nat) (hn : n < 90) (hk : kindN (cel s n) = 67) : WayOk (cel s) n (dirs.flatMap (lineAdd s n true)) := by
  refine ⟨fun t ht => ?_, fun y hy => ?_, Nat.le_trans (lines_len s n hn true) (by omega)⟩
  · rw [List.mem_flatMap]
    unfold canN
    rw [if_neg (by omega), if_neg (by omega), if_neg (by omega), if_neg (by omega), if_neg (by omega), if_pos hk, Bool.or_eq_true, Bool.and_eq_true, Bool.and_eq_true, beq_iff_eq, beq_iff_eq, beq_iff_eq, bne_iff_ne]
    rw [show (betwN (cel s) n t = 0) = (betwN (cel s) n t = ((0 : Nat) : Int)) from rfl, show (betwN (cel s) n t = 1) = (betwN (cel s) n t = ((1 : Nat) : Int)) from rfl, betw_count s n t hn ht, betw_count s n t hn ht]
    constructor
    · rintro ⟨w, hw, hm⟩
      rw [mem_lineAdd, if_pos rfl, mem_free, mem_second] at hm
      rcases hm with ⟨j, a, b, c⟩ | ⟨j, a, b, c⟩
      · exact .inl ⟨⟨w, hw, j, a, b⟩, (em_true s t).1 c⟩
      · exact .inr ⟨⟨w, hw, j, a, b⟩, (em_false s t).1 c⟩
    · rintro (⟨⟨w, hw, j, a, b⟩, c⟩ | ⟨⟨w, hw, j, a, b⟩, c⟩)
      · refine ⟨w, hw, ?_⟩
        rw [mem_lineAdd, if_pos rfl, mem_free, mem_second]
        exact .inl ⟨j, a, b, (em_true s t).2 c⟩
      · refine ⟨w, hw, ?_⟩
        rw [mem_lineAdd, if_pos rfl, mem_free, mem_second]
        exact .inr ⟨j, a, b, (em_false s t).2 c⟩
  · obtain ⟨w, hw, hm⟩ := List.mem_flatMap.1 hy
    exact lineAdd_range s n hn true w hw y hm
theorem pawn_ok (s : ByteArray) (n : Nat) (hn : n < 90) (hk : kindN (cel s n) = 80) : WayOk (cel s) n (pawnL (sideN (cel s n)) n) := by
  have hside : sideN (cel s n) = 0 ∨ sideN (cel s n) = 1 := by
    unfold kindN at hk
    unfold sideN
    split
    · exact .inl rfl
    · rename_i h1
      rw [if_neg h1] at hk
      split
      · exact .inr rfl
      · rename_i h2
        rw [if_neg h2] at hk
        omega
  obtain ⟨b, hb⟩ : ∃ b : Fin 2, sideN (cel s n) = ((b.1 : Nat) : Int) := by
    rcases hside with h | h
    · exact ⟨0, h⟩
    · exact ⟨1, h⟩
  have hg := pawn_geo b ⟨n, hn⟩
  have hrg := pawn_range b ⟨n, hn⟩
  rw [← hb] at hg hrg
  simp only at hg hrg
  refine ⟨fun t ht => ?_, hrg, ?_⟩
  · unfold canN
    rw [if_neg (by omega), if_neg (by omega), if_neg (by omega), if_neg (by omega), if_neg (by omega), if_neg (by omega)]
    exact hg ⟨t, ht⟩
  · unfold pawnL; split <;> simp
theorem kinds7 (x : Nat) (hx : x < 256) (h : 0 ≤ sideN x) : kindN x = 75 ∨ kindN x = 65 ∨ kindN x = 66 ∨ kindN x = 78 ∨ kindN x = 82 ∨ kindN x = 67 ∨ kindN x = 80 := by
  have : ∀ x : Fin 256, 0 ≤ sideN x.1 → kindN x.1 = 75 ∨ kindN x.1 = 65 ∨ kindN x.1 = 66 ∨ kindN x.1 = 78 ∨ kindN x.1 = 82 ∨ kindN x.1 = 67 ∨ kindN x.1 = 80 := by decide +kernel
  exact this ⟨x, hx⟩ h
theorem kind_none (x : Nat) (hx : x < 256) (h : sideN x < 0) : kindN x = 0 := by
  have : ∀ x : Fin 256, sideN x.1 < 0 → kindN x.1 = 0 := by decide +kernel
  exact this ⟨x, hx⟩ h
theorem way_ok (s : ByteArray) (n : Nat) (hn : n < 90) (h0 : 0 ≤ sideN (cel s n)) : WayOk (cel s) n (wayZ s n) := by
  unfold wayZ
  rcases kinds7 _ (cel_lt s n) h0 with h | h | h | h | h | h | h
  · rw [if_pos h]; exact king_ok s n hn h
  · rw [if_neg (by omega), if_pos h]; exact advisor_ok s n hn h
  · rw [if_neg (by omega), if_neg (by omega), if_pos h]; exact elephant_ok s n hn h
  · rw [if_neg (by omega), if_neg (by omega), if_neg (by omega), if_pos h]; exact horse_ok s n hn h
  · rw [if_neg (by omega), if_neg (by omega), if_neg (by omega), if_neg (by omega), if_pos h]; exact chariot_ok s n hn h
  · rw [if_neg (by omega), if_neg (by omega), if_neg (by omega), if_neg (by omega), if_neg (by omega), if_pos h]; exact cannon_ok s n hn h
  · rw [if_neg (by omega), if_neg (by omega), if_neg (by omega), if_neg (by omega), if_neg (by omega), if_neg (by omega), if_pos h]; exact pawn_ok s n hn h
theorem way_none (s : ByteArray) (n : Nat) (h0 : sideN (cel s n) < 0) : wayZ s n = [] := by
  have h := kind_none _ (cel_lt s n) h0
  unfold wayZ
  rw [if_neg (by omega), if_neg (by omega), if_neg (by omega), if_neg (by omega), if_neg (by omega), if_neg (by omega), if_neg (by omega)]
/-- What All's closure throws away. -/
def badZ (s : ByteArray) (pc : Nat) (y : Int) : Bool := !decide (0 ≤ y ∧ y < 90) || (sideN (cel s y.toNat) == sideN pc)
theorem all_sorted (s : ByteArray) (a : Nat) (ha : a < 90) : Lib.compact (((wayZ s a).filter (fun y => !badZ s (cel s a) y)).mergeSort fun x y => decide (x ≤ y)) = ints (allN (cel s) a) := by
  by_cases h0 : 0 ≤ sideN (cel s a)
  · obtain ⟨h1, h2, _⟩ := way_ok s a ha h0
    unfold allN ints
    apply sort_compact
    · intro y hy
      have := (List.mem_filter.1 hy).2
      unfold badZ at this
      simp only [Bool.not_or, Bool.not_not, Bool.and_eq_true, decide_eq_true_eq] at this
      exact this.1
    · intro t ht
      rw [List.mem_filter, h1 t ht]
      unfold badZ fastN
      have hd : (0 : Int) ≤ (t : Int) ∧ (t : Int) < 90 := by omega
      simp [hd, h0]
      constructor
      · rintro ⟨x1, x2⟩; exact ⟨x2, x1⟩
      · rintro ⟨x1, x2⟩; exact ⟨x2, x1⟩
  · rw [way_none s a (by omega)]
    have hnil : allN (cel s) a = [] := by
      unfold allN
      rw [List.filter_eq_nil_iff]
      intro t _
      simp [fastN, h0]
    rw [hnil, List.filter_nil, List.mergeSort_nil]
    rfl
end Go.Proofs.YtafmapadkpjliaaGreatDoor.K

/- Plain law: deleting from a list in place. -/
namespace Go.Proofs.YtafmapadkpjliaaGreatDoor.Sp
/-- The row after j elements were looked at, i of them kept. -/
structure DelInv {α : Type} (p : α → Bool) (xs cur : List α) (i j : Nat) : Prop where
  len : cur.length = xs.length
  lt : i < j
  le : j ≤ xs.length
  kept : cur.take i = (xs.take j).filter (fun x => !p x)
  rest : cur.drop j = xs.drop j

theorem DelInv.get {α : Type} {p : α → Bool} {xs cur : List α} {i j : Nat} (h : DelInv p xs cur i j) (d : α) : cur.getD j d = xs.getD j d := by
  have e : (cur.drop j)[0]? = (xs.drop j)[0]? := by rw [h.rest]
  rw [List.getElem?_drop, List.getElem?_drop] at e
  simpa [List.getD_eq_getElem?_getD] using congrArg (fun z => z.getD d) e

theorem take_one {α : Type} (xs : List α) (j : Nat) (h : j < xs.length) (d : α) : xs.take (j + 1) = xs.take j ++ [xs.getD j d] := by
  rw [List.take_succ_eq_append_getElem h, List.getD_eq_getElem?_getD, List.getElem?_eq_getElem h]
  rfl

theorem DelInv.keep {α : Type} {p : α → Bool} {xs cur : List α} {i j : Nat} (h : DelInv p xs cur i j) (hj : j < xs.length) (d : α) (hp : p (xs.getD j d) = false) : DelInv p xs (cur.set i (xs.getD j d)) (i + 1) (j + 1) where
  len := by rw [List.length_set, h.len]
  lt := by have := h.lt; omega
  le := by omega
  kept := by
    have hi : i < cur.length := by have := h.lt; have := h.len; omega
    rw [take_one xs j hj d, List.filter_append, ← h.kept, take_one _ i (by rw [List.length_set]; exact hi) d, List.take_set_of_le (Nat.le_refl i)]
    have e : (cur.set i (xs.getD j d)).getD i d = xs.getD j d := by rw [List.getD_eq_getElem?_getD, List.getElem?_set_self hi]; rfl
    rw [e]
    generalize xs.getD j d = y at hp ⊢
    simp [hp]
  rest := by
    have := h.lt
    rw [List.drop_set_of_lt (by omega), ← List.drop_drop, h.rest, List.drop_drop]

theorem DelInv.skip {α : Type} {p : α → Bool} {xs cur : List α} {i j : Nat} (h : DelInv p xs cur i j) (hj : j < xs.length) (d : α) (hp : p (xs.getD j d) = true) : DelInv p xs cur i (j + 1) where
  len := h.len
  lt := by have := h.lt; omega
  le := by omega
  kept := by
    rw [take_one xs j hj d, List.filter_append, ← h.kept]
    generalize xs.getD j d = y at hp ⊢
    simp [hp]
  rest := by rw [← List.drop_drop, h.rest, List.drop_drop]

theorem DelInv.start {α : Type} (p : α → Bool) (xs : List α) (k : Nat) (d : α) (hk : k < xs.length) (hp : p (xs.getD k d) = true) (hb : ∀ j, j < k → p (xs.getD j d) = false) : DelInv p xs xs k (k + 1) where
  len := rfl
  lt := by omega
  le := by omega
  kept := by
    rw [take_one xs k hk d, List.filter_append]
    have e : (xs.take k).filter (fun x => !p x) = xs.take k := by
      rw [List.filter_eq_self]
      intro x hx
      obtain ⟨i, hi, rfl⟩ := List.getElem_of_mem hx
      rw [List.length_take] at hi
      have := hb i (by omega)
      rw [List.getD_eq_getElem?_getD, List.getElem?_eq_getElem (by omega)] at this
      simpa using this
    rw [e]
    generalize xs.getD k d = y at hp ⊢
    simp [hp]
  rest := rfl

theorem DelInv.done {α : Type} {p : α → Bool} {xs cur : List α} {i : Nat} (h : DelInv p xs cur i xs.length) : cur.take i = xs.filter (fun x => !p x) := by
  have := h.kept
  rwa [List.take_of_length_le (Nat.le_refl _)] at this
theorem DelInv.count {α : Type} {p : α → Bool} {xs cur : List α} {i : Nat} (h : DelInv p xs cur i xs.length) : (xs.filter (fun x => !p x)).length = i := by
  rw [← h.done, List.length_take, h.len]
  have := h.lt
  omega

theorem first_hit {α : Type} (p : α → Bool) (d : α) : ∀ xs : List α, (∀ x ∈ xs, p x = false) ∨ ∃ k, k < xs.length ∧ p (xs.getD k d) = true ∧ ∀ j, j < k → p (xs.getD j d) = false
  | [] => .inl (by simp)
  | x :: xs => by
    cases hx : p x with
    | true => exact .inr ⟨0, by simp, by simpa using hx, by omega⟩
    | false =>
      rcases first_hit p d xs with h | ⟨k, hk, h1, h2⟩
      · exact .inl (by simpa [hx] using h)
      · refine .inr ⟨k + 1, by simpa using hk, by simpa using h1, ?_⟩
        intro j hj
        cases j with
        | zero => simpa using hx
        | succ j => simpa using h2 j (by omega)
end Go.Proofs.YtafmapadkpjliaaGreatDoor.Sp

/- slices.IndexFunc and slices.DeleteFunc at []int, over a function value that may make memory. -/
namespace Go.Proofs.YtafmapadkpjliaaGreatDoor.K
open Go.RowKit Go.Lib Go.Proofs.YtafmapadkpjliaaGreatDoorW.PrintWords Go.Proofs.YtafmapadkpjliaaGreatDoorW.PrintLast Go.Proofs.YtafmapadkpjliaaGreatDoorW.PrintMore
set_option linter.unusedVariables false
set_option linter.unusedSimpArgs false

/-- What a function value owes that is asked of a list's numbers: at each, in every later world but for the row b. -/
def GivesB (g : Nat) (lb : Array Value) (p : Int → Bool) (xs : List Int) (b : Nat) (w : World) : Prop :=
  ∀ (W : World) (x : Int), x ∈ xs → KeepBut w W b none → Calls Tryz.prog g (#[.int .i64 x] ++ lb) W fun e W' => e = .returned (.bool (p x)) ∧ Below W.heap.size W W'

theorem keep_then_below {w W W' : World} {b : Nat} (h : KeepBut w W b none) (k : Below W.heap.size W W') : KeepBut w W' b none := h.trans (KeepBut.of_below k b none) (.inl rfl)

set_option maxHeartbeats 1000000 in
/-- slices.IndexFunc: no element is so. -/
theorem idx_none (g : Nat) (lb : Array Value) (p : Int → Bool) (eg : ∀ args w, (callFunc g args).run Tryz.prog w = .ok (.enter g args) w) (base b cap : Nat) (xs : List Int) (w : World)
    (HO : w.ownsRow base 3 1 (.slice (some ⟨b, 0, none⟩) xs.length cap) xs.length (nums .i64 xs)) (hg : GivesB g lb p xs b w) (hlen : xs.length ≤ 9223372036854775807)
    (hn : ∀ x ∈ xs, p x = false) :
    Calls Tryz.prog 159 #[.slice (some ⟨b, 0, none⟩) xs.length cap, .func (.func g) #[] lb] w fun e w' => e = .returned (.int .i64 (-1)) ∧ Below w.heap.size w w' := by
  have HG := Aside0.mk hg
  have HN := Aside0.mk hn
  have HX := Aside0.mk HO
  clear hg hn HO
  go_enter Tryz.func159, Tryz.ntmps159
  go_wp2
  go_loopg [5, 8] xs.length (fun gg _ s8 wr => ∃ kk : Nat, kk ≤ xs.length ∧ xs.length - kk ≤ gg ∧ s8 = .int .i64 kk ∧ Below w.heap.size w wr)
  case atStart => exact ⟨0, Nat.zero_le _, by omega, rfl, Below.refl _ _⟩
  case round =>
    obtain ⟨kk, hkk, hgg, rfl, hB0⟩ := hrel
    have hB := Aside0.mk hB0
    clear hB0
    by_cases hlt : kk < xs.length
    · have hltz : (kk : Int) < (xs.length : Int) := by omega
      have ho := pw_own_below HX.out hB.out
      obtain ⟨hcell, _⟩ := own_at ho (kk : Int) (by omega) (by omega)
      rw [Int.toNat_natCast] at hcell
      clear ho
      have hm : rd xs (kk : Int) ∈ xs := by simp [rd, List.getD_eq_getElem?_getD, hlt]
      have hcall := HG.out wr (rd xs (kk : Int)) hm (KeepBut.of_below hB.out b none)
      rw [HN.out _ hm] at hcall
      generalize rd xs (kk : Int) = y at hcell hcall
      clear hm
      go_wp2_with (go_at_fn g; refine hcall.mono ?_; rintro e w' ⟨rfl, hb2⟩)
      go_roundg (xs.length - (kk + 1))
      case measure => omega
      case rel => exact ⟨kk + 1, by omega, by omega, by go_num, below_then hB.out hB.out.size hb2⟩
    · have hltz : ¬ (kk : Int) < (xs.length : Int) := by omega
      go_wp2
      go_ret
      exact ⟨rfl, hB.out⟩

set_option maxHeartbeats 1000000 in
/-- .. or one is, the first at k. -/
theorem idx_hit (g : Nat) (lb : Array Value) (p : Int → Bool) (eg : ∀ args w, (callFunc g args).run Tryz.prog w = .ok (.enter g args) w) (base b cap : Nat) (xs : List Int) (w : World)
    (HO : w.ownsRow base 3 1 (.slice (some ⟨b, 0, none⟩) xs.length cap) xs.length (nums .i64 xs)) (hg : GivesB g lb p xs b w) (hlen : xs.length ≤ 9223372036854775807)
    (k : Nat) (hk : k < xs.length) (hit : p (xs.getD k 0) = true) (hn : ∀ j, j < k → p (xs.getD j 0) = false) :
    Calls Tryz.prog 159 #[.slice (some ⟨b, 0, none⟩) xs.length cap, .func (.func g) #[] lb] w fun e w' => e = .returned (.int .i64 k) ∧ Below w.heap.size w w' := by
  have HG := Aside0.mk hg
  have HN := Aside0.mk hn
  have HX := Aside0.mk HO
  have HI := Aside0.mk hit
  clear hg hn HO hit
  go_enter Tryz.func159, Tryz.ntmps159
  go_wp2
  go_loopg [5, 8] xs.length (fun gg _ s8 wr => ∃ kk : Nat, kk ≤ k ∧ xs.length - kk ≤ gg ∧ s8 = .int .i64 kk ∧ Below w.heap.size w wr)
  case atStart => exact ⟨0, Nat.zero_le _, by omega, rfl, Below.refl _ _⟩
  case round =>
    obtain ⟨kk, hkk, hgg, rfl, hB0⟩ := hrel
    have hB := Aside0.mk hB0
    clear hB0
    have hltz : (kk : Int) < (xs.length : Int) := by omega
    have ho := pw_own_below HX.out hB.out
    obtain ⟨hcell, _⟩ := own_at ho (kk : Int) (by omega) (by omega)
    rw [Int.toNat_natCast] at hcell
    clear ho
    have hrd : rd xs (kk : Int) = xs.getD kk 0 := by simp [rd]
    have hm : xs.getD kk 0 ∈ xs := by simp [List.getD_eq_getElem?_getD, show kk < xs.length by omega]
    rw [hrd] at hcell
    clear hrd
    have hcall := HG.out wr (xs.getD kk 0) hm (KeepBut.of_below hB.out b none)
    clear hm
    by_cases hkz : kk = k
    · subst hkz
      rw [HI.out] at hcall
      generalize xs.getD kk 0 = y at hcell hcall
      go_wp2_with (go_at_fn g; refine hcall.mono ?_; rintro e w' ⟨rfl, hb2⟩)
      go_ret
      exact ⟨rfl, below_then hB.out hB.out.size hb2⟩
    · have hkl : kk + 1 ≤ k := by omega
      rw [HN.out kk (by omega)] at hcall
      generalize xs.getD kk 0 = y at hcell hcall
      clear hkz
      go_wp2_with (go_at_fn g; refine hcall.mono ?_; rintro e w' ⟨rfl, hb2⟩)
      go_roundg (xs.length - (kk + 1))
      case measure => omega
      case rel => exact ⟨kk + 1, by omega, by omega, by go_num, below_then hB.out hB.out.size hb2⟩

/-- Zeros behind a row's beginning leave the beginning. -/
theorem own_zeros (base b cap i : Nat) (xs : List Int) (hx : xs.length = i) : ∀ (zs : List Value) (o : Nat) (W : World), i ≤ o → W.ownsRow base 3 1 (.slice (some ⟨b, 0, none⟩) i cap) i (nums .i64 xs) →
    (∀ z ∈ zs, z = .int .i64 0) → (W.setCells b o zs).ownsRow base 3 1 (.slice (some ⟨b, 0, none⟩) i cap) i (nums .i64 xs) ∧ KeepBut W (W.setCells b o zs) b none ∧ ∀ (B0 : Nat) (w0 : World), B0 ≤ b → Below B0 w0 W → Below B0 w0 (W.setCells b o zs)
  | [], o, W, _, h, _ => ⟨h, KeepBut.refl _ _ _, fun _ _ _ h => h⟩
  | z :: zs, o, W, ho, h, hz => by
    obtain rfl := hz z List.mem_cons_self
    obtain ⟨h1, _⟩ := own_store h (o : Int) 0
    rw [Int.toNat_natCast, List.set_eq_of_length_le (by omega)] at h1
    obtain ⟨a, k, c⟩ := own_zeros base b cap i xs hx zs (o + 1) _ (by omega) h1 (fun z hz' => hz z (List.mem_cons_of_mem _ hz'))
    exact ⟨a, ((KeepBut.refl W b none).set_ o _).trans k (.inl rfl), fun B0 w0 hb hB => c B0 w0 hb (hB.setCell (p := ⟨b, o, none⟩) hb _)⟩

theorem own_take {W : World} {base b cap n : Nat} {xs : List Int} (h : W.ownsRow base 3 1 (.slice (some ⟨b, 0, none⟩) n cap) n (nums .i64 xs)) (i : Nat) (hi : i ≤ n) :
    W.ownsRow base 3 1 (.slice (some ⟨b, 0, none⟩) i cap) i (nums .i64 (xs.take i)) := by
  obtain ⟨hl, h⟩ := h
  have hxl : xs.length = n := by simpa [nums] using hl
  refine ⟨by simp [nums]; omega, ?_⟩
  rcases h with ⟨h, _⟩ | ⟨g, c, cur, h1, h2, h3, h4, h5, h6, h7⟩
  · cases h
  · injection h1 with a1 a2 a3
    injection a1 with a1
    injection a1 with a1
    subst a1 a3
    refine .inr ⟨b, cap, cur, rfl, h2, h3, by omega, h5, h6, ?_⟩
    rw [Nat.mul_one] at h7 ⊢
    have : (cur.toList.take n).take i = cur.toList.take i := by rw [List.take_take]; congr 1; omega
    rw [← this, h7]
    simp [nums, List.map_take]

set_option maxHeartbeats 2000000 in
/-- slices.DeleteFunc: what is left lies at the row's beginning. -/
theorem del_calls (g : Nat) (lb : Array Value) (p : Int → Bool) (eg : ∀ args w, (callFunc g args).run Tryz.prog w = .ok (.enter g args) w) (base b cap : Nat) (xs : List Int) (B0 : Nat) (w : World)
    (HO : w.ownsRow base 3 1 (.slice (some ⟨b, 0, none⟩) xs.length cap) xs.length (nums .i64 xs)) (hg : GivesB g lb p xs b w) (hlen : xs.length ≤ 9223372036854775807) (hcap : xs.length ≤ cap)
    (hb : B0 ≤ b) (hz : B0 ≤ w.heap.size) :
    Calls Tryz.prog 136 #[.slice (some ⟨b, 0, none⟩) xs.length cap, .func (.func g) #[] lb] w fun e w' => e = .returned (.slice (some ⟨b, 0, none⟩) (xs.filter fun x => !p x).length cap) ∧
      w'.ownsRow base 3 1 (.slice (some ⟨b, 0, none⟩) (xs.filter fun x => !p x).length cap) (xs.filter fun x => !p x).length (nums .i64 (xs.filter fun x => !p x)) ∧ KeepBut w w' b none ∧ Below B0 w w' := by
  have HB := Aside0.mk (Below.refl B0 w)
  have HZ0 := Aside0.mk hz
  have HX := Aside0.mk HO
  rcases Sp.first_hit p 0 xs with hn | ⟨k, hk, hit, hn⟩
  · have hI := idx_none g lb p eg base b cap xs w HO hg hlen hn
    have hf : (xs.filter fun x => !p x) = xs := by rw [List.filter_eq_self]; intro x hx; simp [hn x hx]
    rw [hf]
    clear hg hn HO hz hf
    go_enter Tryz.func136, Tryz.ntmps136
    go_wp2_with (go_at_call 159; refine hI.mono ?_; rintro e w1 ⟨rfl, hb1⟩)
    go_ret
    exact ⟨rfl, pw_own_below HX.out hb1, KeepBut.of_below hb1 b none, below_then HB.out (Nat.le_trans HZ0.out HB.out.size) hb1⟩
  · have hI := idx_hit g lb p eg base b cap xs w HO hg hlen k hk hit hn
    have hS := Aside0.mk (Sp.DelInv.start p xs k 0 hk hit hn)
    have HG := Aside0.mk hg
    have hk1 : ((k : Int) == -1) = false := beq_eq_false_iff_ne.2 (by omega)
    clear hg hn HO hz hit
    go_enter Tryz.func136, Tryz.ntmps136
    go_wp2_with (go_at_call 159; refine hI.mono ?_; rintro e w1 ⟨rfl, hb1⟩)
    go_loopg [5, 6, 7] xs.length (fun gg s5 s6 _ wr => ∃ (i j : Nat) (cur : List Int), s5 = .int .i64 i ∧ s6 = .int .i64 j ∧ xs.length - j ≤ gg ∧ Aside0 (Sp.DelInv p xs cur i j) ∧ Aside0 (wr.ownsRow base 3 1 (.slice (some ⟨b, 0, none⟩) xs.length cap) xs.length (nums .i64 cur)) ∧ Aside0 (KeepBut w wr b none) ∧ Aside0 (Below B0 w wr))
    case atStart => exact ⟨k, k + 1, xs, rfl, by go_num, by omega, hS, ⟨pw_own_below HX.out hb1⟩, ⟨KeepBut.of_below hb1 b none⟩, ⟨below_then HB.out (Nat.le_trans HZ0.out HB.out.size) hb1⟩⟩
    case round =>
      obtain ⟨i, j, cur, rfl, rfl, hgg, hD, hO, hK, hBw⟩ := hrel
      have hij := hD.out.lt
      have hjl := hD.out.le
      have hcl := Lib.hid hD.out.len
      by_cases hlt : j < xs.length
      · have hltz : (j : Int) < (xs.length : Int) := by omega
        have hrd : rd cur (j : Int) = xs.getD j 0 := by rw [← hD.out.get 0]; simp [rd]
        obtain ⟨hcj, _⟩ := own_at hO.out (j : Int) (by omega) (by omega)
        obtain ⟨hci, hfi⟩ := own_at hO.out (i : Int) (by omega) (by omega)
        rw [Int.toNat_natCast] at hcj hci hfi
        rw [hrd] at hcj
        clear hrd
        have hm : xs.getD j 0 ∈ xs := by simp [List.getD_eq_getElem?_getD, hlt]
        have hcall := HG.out wr (xs.getD j 0) hm hK.out
        clear hm
        obtain ⟨y, HY⟩ : ∃ y, Hid (xs.getD j 0 = y) := ⟨_, rfl⟩
        rw [HY.out] at hcj hcall
        cases hq : p y with
        | false =>
          rw [hq] at hcall
          have HQ := Lib.hid hq
          clear hq
          generalize rd cur (i : Int) = old at hci
          have hafter : ∀ w2, Below wr.heap.size wr w2 → w2.cell? ⟨b, i, none⟩ = some (.int .i64 old) ∧ w2.frozen? ⟨b, i, none⟩ = false := fun w2 h2 => ⟨pw_cell_below h2 hci, by
            have := pw_own_below hO.out h2
            have := (own_at this (i : Int) (by omega) (by omega)).2
            rwa [Int.toNat_natCast] at this⟩
          have HA := Aside0.mk hafter
          clear hafter hci hfi
          go_wp2_with (go_at_fn g; refine hcall.mono ?_; rintro e w2 ⟨rfl, hb2⟩; obtain ⟨hc2, hf2⟩ := HA.out w2 hb2)
          go_roundg (xs.length - (j + 1))
          case measure => omega
          case rel =>
            have hO2 := pw_own_below hO.out hb2
            obtain ⟨hs, _⟩ := own_store hO2 (i : Int) y
            rw [Int.toNat_natCast] at hs
            exact ⟨i + 1, j + 1, cur.set i y, by go_num, by go_num, by omega, ⟨HY.out ▸ hD.out.keep hlt 0 (by rw [HY.out]; exact HQ.out)⟩, ⟨hs⟩, ⟨(keep_then_below hK.out hb2).set_ i _⟩, ⟨(below_then hBw.out (Nat.le_trans HZ0.out hBw.out.size) hb2).setCell (p := ⟨b, i, none⟩) hb _⟩⟩
        | true =>
          rw [hq] at hcall
          have HQ := Lib.hid hq
          clear hq
          clear hci hfi
          go_wp2_with (go_at_fn g; refine hcall.mono ?_; rintro e w2 ⟨rfl, hb2⟩)
          go_roundg (xs.length - (j + 1))
          case measure => omega
          case rel => exact ⟨i, j + 1, cur, rfl, by go_num, by omega, ⟨hD.out.skip hlt 0 (by rw [HY.out]; exact HQ.out)⟩, ⟨pw_own_below hO.out hb2⟩, ⟨keep_then_below hK.out hb2⟩, ⟨below_then hBw.out (Nat.le_trans HZ0.out hBw.out.size) hb2⟩⟩
      · obtain rfl : j = xs.length := by omega
        have hltz : ¬ (xs.length : Int) < (xs.length : Int) := by omega
        have hpt : wr.ownsRow base 3 1 (.slice (some ⟨b, 0, none⟩) i cap) i (nums .i64 (cur.take i)) := own_take hO.out i (by omega)
        have hlt2 : (cur.take i).length = i := by rw [List.length_take, hcl.out]; omega
        have HZ := Aside0.mk (own_zeros base b cap i (cur.take i) hlt2 (List.replicate (xs.length - i) (.int .i64 0)) i wr (Nat.le_refl _) hpt (fun z hz => List.eq_of_mem_replicate hz))
        clear hpt hlt2
        have hcl2 : ∀ ty, (Builtin.clear_ #[94] ty #[.slice (some ⟨b, i, none⟩) (xs.length - i) (cap - i)]).run Tryz.prog wr = .ok (.tuple #[]) (wr.setCells b i (List.replicate (xs.length - i) (.int .i64 0))) :=
          fun ty => Lib.run_clear_slice wr _ _ ty _ Tryz.underlying94 Tryz.zeroValue3 rfl rfl b i _ _ (by omega)
            (fun t ht => by have := (own_at hO.out ((i + t : Nat) : Int) (by omega) (by omega)).1; rw [Int.toNat_natCast] at this; rw [this]; rfl)
            (fun t ht => by have := (own_at hO.out ((i + t : Nat) : Int) (by omega) (by omega)).2; rwa [Int.toNat_natCast] at this)
        go_wp2
        go_ret
        obtain ⟨z1, z2, z3⟩ := HZ.out
        have e1 := hD.out.done
        have e2 := hD.out.count
        rw [e1] at z1
        exact ⟨by rw [e2]; rfl, by rw [e2]; exact z1, hK.out.trans z2 (.inl rfl), z3 B0 w hb hBw.out⟩

set_option maxHeartbeats 1000000 in
theorem del_nil (a : Option Addr) (c : Nat) (fv : Value) (w : World) :
    Calls Tryz.prog 136 #[.slice a 0 c, fv] w fun e w' => e = .returned (.slice a 0 c) ∧ w' = w := by
  have hI := Tryz.slices_IndexFunc_empty (α := Int) a c fv w
  go_enter Tryz.func136, Tryz.ntmps136
  go_wp2_with (go_at_call 159; refine hI.mono ?_; rintro e w1 ⟨rfl, rfl⟩)
  go_ret
  exact ⟨rfl, rfl⟩

/-- A row of whole numbers of the call's own, from block B on. -/
def OwnZ (W : World) (B : Nat) (v : Value) (l : List Int) : Prop := W.ownsRow B 3 1 v l.length (nums .i64 l)
theorem OwnZ.below {W W' : World} {B : Nat} {v : Value} {l : List Int} (h : OwnZ W B v l) (hb : Below W.heap.size W W') : OwnZ W' B v l := pw_own_below h hb
theorem OwnZ.lower {W : World} {B B' : Nat} {v : Value} {l : List Int} (h : OwnZ W B v l) (hb : B' ≤ B) : OwnZ W B' v l := by
  obtain ⟨h1, h2 | ⟨g, cap, cur, h2, h3, h4⟩⟩ := h
  · exact ⟨h1, .inl h2⟩
  · exact ⟨h1, .inr ⟨g, cap, cur, h2, Nat.le_trans hb h3, h4⟩⟩
theorem OwnZ.form {W : World} {B : Nat} {v : Value} {l : List Int} (h : OwnZ W B v l) : ∃ A cap, v = .slice A l.length cap := by
  obtain ⟨h1, ⟨h2, h3⟩ | ⟨g, cap, cur, h2, h3, h4⟩⟩ := h
  · exact ⟨none, 0, by rw [h2, h3]⟩
  · exact ⟨_, _, h2⟩
theorem OwnZ.lt {W : World} {B : Nat} {v : Value} {l : List Int} (h : OwnZ W B v l) : ∀ k, v.ownBlock = some k → B ≤ k ∧ k < W.heap.size := World.ownsRow.lt h
theorem own_znil (W : World) (B : Nat) : OwnZ W B (.slice none 0 0) [] := ⟨rfl, .inl ⟨rfl, rfl⟩⟩
theorem own_znew (W : World) (B : Nat) (l : List Int) (hB : B ≤ W.heap.size) (hl : l.length ≤ maxLen) : OwnZ (W.alloc (.cells (nums .i64 l).toArray 3)) B (.slice (some ⟨W.heap.size, 0, none⟩) l.length l.length) l := by
  exact own_lit W B 3 .i64 l hB (by unfold maxLen at hl; exact hl)
/-- slices.DeleteFunc in these words. -/
theorem del_Z (g : Nat) (lb : Array Value) (p : Int → Bool) (eg : ∀ args w, (callFunc g args).run Tryz.prog w = .ok (.enter g args) w) (B : Nat) (v : Value) (xs : List Int) (w : World) (hz : B ≤ w.heap.size)
    (ho : OwnZ w B v xs) (hg : ∀ b, B ≤ b → b < w.heap.size → v.ownBlock = some b → GivesB g lb p xs b w) :
    Calls Tryz.prog 136 #[v, .func (.func g) #[] lb] w fun e w' => ∃ v' : Value, e = .returned v' ∧ OwnZ w' B v' (xs.filter fun x => !p x) ∧ Below B w w' := by
  have ho' := ho
  obtain ⟨hl, ⟨rfl, h0⟩ | ⟨b, cap, cur, hv, hb, hh, hnc, hcm, hcs, hct⟩⟩ := ho
  · obtain rfl : xs = [] := List.length_eq_zero_iff.mp h0
    exact (del_nil none 0 _ w).mono fun e w' ⟨he, hw⟩ => ⟨_, he, hw ▸ ho', hw ▸ Below.refl _ _⟩
  · subst hv
    refine (del_calls g lb p eg B b cap xs B w ho' (hg b hb (blk_lt hh) rfl) (by unfold maxLen at hcm; omega) hnc hb hz).mono ?_
    rintro e w' ⟨he, h1, _, h3⟩
    exact ⟨_, he, h1, h3⟩
end Go.Proofs.YtafmapadkpjliaaGreatDoor.K

/- slices.Sort and slices.Compact at []int, in the words of a row of the call's own. -/
namespace Go.Proofs.YtafmapadkpjliaaGreatDoor.K
open Go.RowKit Go.Lib Go.Proofs.YtafmapadkpjliaaGreatDoorW.PrintWords Go.Proofs.YtafmapadkpjliaaGreatDoorW.PrintLast Go.Proofs.YtafmapadkpjliaaGreatDoorW.PrintMore
set_option linter.unusedVariables false
set_option linter.unusedSimpArgs false

theorem row_put {w : World} {base b cap q : Nat} {os : Array Obj} {xs ys : List Int} (hy : ys.length = xs.length)
    (HO : w.ownsRow base 3 1 (.slice (some ⟨b, 0, none⟩) xs.length cap) xs.length (nums .i64 xs)) :
    (Sort.grow (Sort.putRow (Value.int .i64) (Sort.ahead w q) b 0 ys.toArray) os).ownsRow base 3 1 (.slice (some ⟨b, 0, none⟩) ys.length cap) ys.length (nums .i64 ys) ∧
    KeepBut w (Sort.grow (Sort.putRow (Value.int .i64) (Sort.ahead w q) b 0 ys.toArray) os) b none ∧ ∀ (B0 : Nat) (w0 : World), B0 ≤ b → Below B0 w0 w → Below B0 w0 (Sort.grow (Sort.putRow (Value.int .i64) (Sort.ahead w q) b 0 ys.toArray) os) := by
  obtain ⟨hl, h⟩ := HO
  rcases h with ⟨h, _⟩ | ⟨g, c, cur, h1, h2, h3, h4, h5, h6, h7⟩
  · cases h
  · injection h1 with a1 a2 a3
    injection a1 with a1
    injection a1 with a1
    subst a1 a3
    have hlt : b < w.heap.size := blk_lt h3
    have hsz : (Sort.putRow (Value.int .i64) (Sort.ahead w q) b 0 ys.toArray).heap.size = w.heap.size := by rw [Sort.size_putRow]; rfl
    have hput : (Sort.putRow (Value.int .i64) (Sort.ahead w q) b 0 ys.toArray).heap[b]? = some (.cells (Sort.putCells (Value.int .i64) 0 ys.toArray cur) 3 (0, 0)) := by
      have h3' : (Sort.ahead w q).heap[b]? = some (.cells cur 3 (0, 0)) := h3
      simp only [Sort.putRow, Sort.mapBlock, Array.getElem?_modify, if_true, h3', Option.map_some, Sort.onCells]
    have hoth : ∀ i, i ≠ b → (Sort.putRow (Value.int .i64) (Sort.ahead w q) b 0 ys.toArray).heap[i]? = w.heap[i]? := by
      intro i hi
      simp [Sort.putRow, Sort.mapBlock, Array.getElem?_modify, Ne.symm hi]
    refine ⟨⟨by simp [nums], .inr ⟨b, cap, _, rfl, h2, (Sort.heap_grow_old _ os (by omega)).trans hput, by omega, h5, by simp [Sort.putCells, h6], ?_⟩⟩, ⟨?_, ?_⟩, ?_⟩
    · apply List.ext_getElem?
      intro i
      by_cases hi : i < ys.length
      · have hic : i < cur.size := by omega
        rw [Nat.mul_one, List.getElem?_take_of_lt hi]
        simp [Sort.putCells, nums, hi, hic, Array.getElem?_eq_getElem, List.getElem?_eq_getElem]
      · rw [List.getElem?_eq_none (by rw [List.length_take]; omega), List.getElem?_eq_none (by simp [nums]; omega)]
    · show w.heap.size ≤ ((Sort.putRow (Value.int .i64) (Sort.ahead w q) b 0 ys.toArray).heap ++ os).size
      rw [Array.size_append]; omega
    · intro i hi hib _
      rw [Sort.heap_grow_old _ os (by omega), hoth i hib]
    · intro B0 w0 hb hB
      refine ⟨hB.os, hB.tape, hB.output, ?_, ?_⟩
      · show w0.heap.size ≤ ((Sort.putRow (Value.int .i64) (Sort.ahead w q) b 0 ys.toArray).heap ++ os).size
        rw [Array.size_append]; have := hB.size; omega
      · intro i hi
        have := hB.size
        rw [Sort.heap_grow_old _ os (by omega), hoth i (by omega)]
        exact hB.block i hi

theorem own_holds {w : World} {base b cap : Nat} {xs : List Int} (HO : w.ownsRow base 3 1 (.slice (some ⟨b, 0, none⟩) xs.length cap) xs.length (nums .i64 xs)) : Sort.Holds (Value.int .i64) w b 0 xs.toArray := by
  intro j hj
  have hj' : j < xs.length := by simpa using hj
  obtain ⟨h1, h2⟩ := own_at HO (j : Int) (by omega) (by omega)
  rw [Int.toNat_natCast] at h1 h2
  rw [Nat.zero_add]
  refine ⟨h1.trans ?_, h2⟩
  simp [rd, hj', List.getD_eq_getElem?_getD]

theorem sort_Z (B : Nat) (v : Value) (xs : List Int) (w : World) (hs : xs.length < 4611686018427387904) (ho : OwnZ w B v xs) :
    Calls Tryz.prog 149 #[v] w fun e w' => e = .returned (.tuple #[]) ∧ OwnZ w' B v (xs.mergeSort fun x y => decide (x ≤ y)) ∧ Below B w w' := by
  have ho' := ho
  obtain ⟨hl, ⟨rfl, h0⟩ | ⟨b, cap, cur, hv, hb, hh, hnc, hcm, hcs, hct⟩⟩ := ho
  · obtain rfl : xs = [] := List.length_eq_zero_iff.mp h0
    exact (Tryz.slices_Sort_int_none none 0 w).mono fun e w' ⟨he, hw⟩ => ⟨he, by rw [List.mergeSort_nil]; exact hw ▸ ho', hw ▸ Below.refl _ _⟩
  · subst hv
    refine (Tryz.slices_Sort_int b 0 cap xs w (own_holds ho') (blk_lt hh) hs).mono ?_
    rintro e w' ⟨he, q, os, rfl⟩
    obtain ⟨h1, h2, h3⟩ := row_put (q := q) (os := os) (xs := xs) (ys := xs.mergeSort fun x y => decide (x ≤ y)) (List.length_mergeSort _) ho'
    refine ⟨he, ?_, h3 B w hb (Below.refl _ _)⟩
    unfold OwnZ
    rw [List.length_mergeSort] at h1 ⊢
    exact h1
theorem compact_len (xs : List Int) : (Lib.compact xs).length ≤ xs.length := by
  unfold Lib.compact Lib.compactUpTo
  rw [List.length_map]
  exact Nat.le_trans (List.length_filter_le _ _) (by simp)
theorem compact_Z (B : Nat) (v : Value) (xs : List Int) (w : World) (ho : OwnZ w B v xs) :
    Calls Tryz.prog 150 #[v] w fun e w' => ∃ v' : Value, e = .returned v' ∧ OwnZ w' B v' (Lib.compact xs) ∧ Below B w w' := by
  have ho' := ho
  obtain ⟨hl, ⟨rfl, h0⟩ | ⟨b, cap, cur, hv, hb, hh, hnc, hcm, hcs, hct⟩⟩ := ho
  · obtain rfl : xs = [] := List.length_eq_zero_iff.mp h0
    exact (Tryz.slices_Compact_int_empty none 0 w).mono fun e w' ⟨he, hw⟩ => ⟨_, he, hw ▸ ho', hw ▸ Below.refl _ _⟩
  · subst hv
    refine (Tryz.slices_Compact_int b 0 cap xs w (own_holds ho') (by unfold maxLen at hcm; omega) hnc).mono ?_
    rintro e w' ⟨he, q, rfl⟩
    have hc := compact_len xs
    obtain ⟨h1, h2, h3⟩ := row_put (q := q) (os := #[]) (xs := xs) (ys := Lib.compact xs ++ List.replicate (xs.length - (Lib.compact xs).length) 0) (by simp; omega) ho'
    rw [Sort.grow_empty] at h1 h2 h3
    refine ⟨_, he, ?_, h3 B w hb (Below.refl _ _)⟩
    have h4 := own_take h1 (Lib.compact xs).length (by simp)
    rw [List.take_left] at h4
    exact h4
end Go.Proofs.YtafmapadkpjliaaGreatDoor.K

/- Walks: reach's views, steps, small lists of squares. -/
namespace Go.Proofs.YtafmapadkpjliaaGreatDoor.K
open Go.RowKit Go.Lib Go.Proofs.YtafmapadkpjliaaGreatDoorW.PrintWords Go.Proofs.YtafmapadkpjliaaGreatDoorW.PrintLast Go.Proofs.YtafmapadkpjliaaGreatDoorW.PrintMore Go.Proofs.YtafmapadkpjliaaGreatDoor.Sp
set_option linter.unusedVariables false
set_option linter.unusedSimpArgs false
attribute [local go_sem] cel_get   -- for this text's walks alone
theorem info_intZ : (Tryz.prog.info? 3).map (fun i => (i.zero, i.size, i.bytes)) = some (some (.int .i64 0), 1, 8) := by kernel_rfl
/-- A view, and its box. -/
abbrev vwV (s : ByteArray) (a x : Nat) : Value := .agg #[.string s, .int .i64 (a : Int), .int .u8 (x : Int)]
structure VwAt (w0 W : World) (s : ByteArray) (a x : Nat) : Prop where
  c0 : W.cell? ⟨w0.heap.size, 0, none⟩ = some (.string s)
  c1 : W.cell? ⟨w0.heap.size, 1, none⟩ = some (.int .i64 (a : Int))
  c2 : W.cell? ⟨w0.heap.size, 2, none⟩ = some (.int .u8 (x : Int))
  bel : Below w0.heap.size w0 W
theorem VwAt.lt {w0 W : World} {s : ByteArray} {a x : Nat} (h : VwAt w0 W s a x) : w0.heap.size < W.heap.size := World.block_lt_of_cell? W _ h.c0
theorem VwAt.keep {w0 W W' : World} {s : ByteArray} {a x : Nat} (h : VwAt w0 W s a x) {B : Nat} (hB : w0.heap.size < B) (hb : Below B W W') : VwAt w0 W' s a x :=
  ⟨(hb.cell (p := ⟨w0.heap.size, 0, none⟩) hB).trans h.c0, (hb.cell (p := ⟨w0.heap.size, 1, none⟩) hB).trans h.c1, (hb.cell (p := ⟨w0.heap.size, 2, none⟩) hB).trans h.c2, h.bel.trans (hb.mono (Nat.le_of_lt hB))⟩
theorem VwAt.below {w0 W W' : World} {s : ByteArray} {a x : Nat} (h : VwAt w0 W s a x) (hb : Below W.heap.size W W') : VwAt w0 W' s a x := h.keep h.lt hb
theorem VwAt.drew {w0 W : World} {s : ByteArray} {a x : Nat} (h : VwAt w0 W s a x) : VwAt w0 W.drew s a x := h.below (pw_below_drewN (Below.refl _ _) 1)
theorem VwAt.new (w : World) (s : ByteArray) (a x : Nat) : VwAt w (w.alloc (.cells #[.string s, .int .i64 (a : Int), .int .u8 (x : Int)] 152)) s a x :=
  ⟨by simp [World.cell?_alloc_at], by simp [World.cell?_alloc_at], by simp [World.cell?_alloc_at], below_alloc (Below.refl _ _) _⟩
theorem mayS_eq (x : Nat) (y : Int) : mayS x y = mayZ x y := by
  unfold mayS mayZ
  by_cases h : 0 ≤ sideN x
  · simp [h]
  · have : mayN x y.toNat = false := by unfold mayN; rw [if_pos (by omega)]
    rw [this]; simp
theorem isq_c (n : Int) (w : World) : Calls Tryz.prog 133 #[.int .i64 n] w fun e w' => e = .returned (.bool (decide (0 ≤ n ∧ n < 90))) ∧ w' = w := by
  by_cases h0 : 0 ≤ n
  all_goals
    go_enter Tryz.func133, Tryz.ntmps133
    go_wp2_with fail
    go_ret
    refine ⟨ret_bool ?_, rfl⟩
    rw [Bool.eq_iff_iff]; simp; omega
set_option maxHeartbeats 1000000 in
theorem step_c (s : ByteArray) (a x : Nat) (ha : a < 90) (f r : Int) (hf : -60 ≤ f ∧ f ≤ 60) (hr : -60 ≤ r ∧ r ≤ 60) (w : World) : Calls Tryz.prog 181 #[vwV s a x, .int .i64 f, .int .i64 r] w fun e w' => e = .returned (.int .i64 (stepN a f r)) ∧ Below w.heap.size w w' := by
  have HF := Aside0.mk (fun W => file_c a ha W)
  have HR := Aside0.mk (fun W => rank_c a ha W)
  have HQ := Aside0.mk (fun W => square_c (((a % 9 : Nat) : Int) + f) (((a / 9 : Nat) : Int) + r) W)
  have HE := Aside0.mk (show stepN a f r = squareZ (((a % 9 : Nat) : Int) + f) (((a / 9 : Nat) : Int) + r) from rfl)
  have u0 : 0 ≤ ((a % 9 : Nat) : Int) := by omega
  have u1 : ((a % 9 : Nat) : Int) < 9 := by omega
  have v0 : 0 ≤ ((a / 9 : Nat) : Int) := by omega
  have v1 : ((a / 9 : Nat) : Int) < 10 := by omega
  obtain ⟨f0, f1⟩ := hf
  obtain ⟨r0, r1⟩ := hr
  generalize stepN a f r = z at *
  generalize ((a % 9 : Nat) : Int) = u at *
  generalize ((a / 9 : Nat) : Int) = v at *
  have HB := Aside0.mk (VwAt.new w s a x)
  have hu := Tryz.underlying152
  clear ha
  go_enter Tryz.func181, Tryz.ntmps181
  go_wp2_with fail
  generalize w.alloc (.cells #[.string s, .int .i64 (a : Int), .int .u8 (x : Int)] 152) = W1 at *
  obtain ⟨c0, c1, c2, _⟩ := HB.out
  go_quiet (first | (go_at_call 98; exact Calls.quiet_of_same (HF.out _)) | (go_at_call 134; exact Calls.quiet_of_same (HR.out _)) | (go_at_call 202; exact Calls.quiet_of_same (HQ.out _)))
  go_wp2_with fail
  go_ret
  exact ⟨ret_int HE.out.symm, pw_below_drewN HB.out.bel _⟩
theorem empty_c (s : ByteArray) (hs : s.size = 90) (a x : Nat) (n : Int) (w : World) : Calls Tryz.prog 180 #[vwV s a x, .int .i64 n] w fun e w' => e = .returned (.bool (emptyZ s n)) ∧ Below w.heap.size w w' := by
  have HI := Aside0.mk (fun W => isq_c n W)
  have HB := Aside0.mk (VwAt.new w s a x)
  have hu := Tryz.underlying152
  have beq46' : ∀ x : Nat, ((x : Int) == 46) = (x == 46) := fun x => by rw [Bool.eq_iff_iff, beq_iff_eq, beq_iff_eq]; omega
  by_cases h : 0 ≤ n ∧ n < 90
  · rw [decide_eq_true h] at HI
    have h0 := h.1
    have h1 : n < (s.size : Int) := by rw [hs]; exact h.2
    have HE := Aside0.mk (show emptyZ s n = (cel s n.toNat == 46) by unfold emptyZ; rw [decide_eq_true h, Bool.true_and])
    have HQ := Aside0.mk (beq46' (cel s n.toNat))
    clear h hs beq46'
    go_enter Tryz.func180, Tryz.ntmps180
    go_wp2_with (go_at_call 133; refine (HI.out _).mono ?_; rintro e w1 ⟨rfl, rfl⟩)
    go_ret
    exact ⟨ret_bool (by rw [HE.out]; exact HQ.out), HB.out.bel⟩
  · rw [decide_eq_false h] at HI
    have HE := Aside0.mk (show emptyZ s n = false by unfold emptyZ; rw [decide_eq_false h, Bool.false_and])
    clear h hs beq46'
    go_enter Tryz.func180, Tryz.ntmps180
    go_wp2_with (go_at_call 133; refine (HI.out _).mono ?_; rintro e w1 ⟨rfl, rfl⟩)
    go_ret
    exact ⟨ret_bool HE.out.symm, HB.out.bel⟩
/-! ### four -/
def fourZ (a : Nat) (f r : Int) : List Int := [stepN a f r, stepN a (-f) r, stepN a f (-r), stepN a (-f) (-r)]
set_option maxHeartbeats 2000000 in
theorem four_c (s : ByteArray) (a x : Nat) (ha : a < 90) (f r : Int) (hf : -9 ≤ f ∧ f ≤ 9) (hr : -9 ≤ r ∧ r ≤ 9) (w : World) : Calls Tryz.prog 178 #[vwV s a x, .int .i64 f, .int .i64 r] w fun e w' => ∃ v, e = .returned v ∧ OwnZ w' w.heap.size v (fourZ a f r) ∧ Below w.heap.size w w' := by
  have HS := Aside0.mk (fun (f r : Int) (h1 : -60 ≤ f ∧ f ≤ 60) (h2 : -60 ≤ r ∧ r ≤ 60) (W : World) => step_c s a x ha f r h1 h2 W)
  have n1 : IntKind.i64.wrap (-f) = -f := by rw [IntKind.wrap_i64]; omega
  have n2 : IntKind.i64.wrap (-r) = -r := by rw [IntKind.wrap_i64]; omega
  have n3 : wrap64 (-f) = -f := by unfold wrap64; omega
  have n4 : wrap64 (-r) = -r := by unfold wrap64; omega
  have HB := Aside0.mk (VwAt.new w s a x)
  have hu := Tryz.underlying152
  have HFR := Aside0.mk (And.intro hf hr)
  clear ha hf hr
  go_enter Tryz.func178, Tryz.ntmps178
  go_wp2_with fail
  generalize w.alloc (.cells #[.string s, .int .i64 (a : Int), .int .u8 (x : Int)] 152) = W1 at *
  have HA := Aside0.mk HB.out.drew
  obtain ⟨c0, c1, c2, _⟩ := HB.out
  go_region_held3 (fun W => W.cell? ⟨w.heap.size, 0, none⟩ = some (.string s) ∧ W.cell? ⟨w.heap.size, 1, none⟩ = some (.int .i64 (a : Int)) ∧ W.cell? ⟨w.heap.size, 2, none⟩ = some (.int .u8 (x : Int))) (go_keep)
    (first
      | (go_at_call 181; refine (HS.out _ _ (by have := HFR.out; omega) (by have := HFR.out; omega) _).mono ?_; rintro e w2 ⟨rfl, hb⟩; have HAn := Aside0.mk (HA.out.below hb); clear HA hb c0 c1 c2; have HA := HAn; clear HAn; obtain ⟨c0, c1, c2, _⟩ := HA.out))
  all_goals
    go_wp2_with fail
    go_ret
    exact ⟨_, rfl, own_znew _ _ [_, _, _, _] HA.out.bel.size (by simp [maxLen]), HA.out.bel.trans ((below_alloc (Below.refl _ _) _).mono HA.out.bel.size)⟩
end Go.Proofs.YtafmapadkpjliaaGreatDoor.K

/- Walk: reach's line. -/
namespace Go.Proofs.YtafmapadkpjliaaGreatDoor.K
open Go.RowKit Go.Lib Go.Proofs.YtafmapadkpjliaaGreatDoorW.PrintWords Go.Proofs.YtafmapadkpjliaaGreatDoorW.PrintLast Go.Proofs.YtafmapadkpjliaaGreatDoorW.PrintMore Go.Proofs.YtafmapadkpjliaaGreatDoor.Sp
set_option linter.unusedVariables false
set_option linter.unusedSimpArgs false
attribute [local go_sem] cel_get   -- for this text's walks alone
/-! ### the plain law of one way -/
theorem drop_cons' {R : List Nat} {j t : Nat} (h : R[j]? = some t) : R.drop j = t :: R.drop (j + 1) := by
  obtain ⟨hj, rfl⟩ := List.getElem?_eq_some_iff.1 h
  exact List.drop_eq_getElem_cons hj
theorem take_snoc {R : List Nat} {j t : Nat} (h : R[j]? = some t) : R.take (j + 1) = R.take j ++ [t] := by
  obtain ⟨hj, rfl⟩ := List.getElem?_eq_some_iff.1 h
  exact List.take_succ_eq_append_getElem hj
/-- What was met along a way, j squares on, p pieces met. -/
def LineSt (s : ByteArray) (R : List Nat) (j p : Nat) (F : List Int) (f g : Int) : Prop :=
  (p = 0 ∧ j ≤ R.length ∧ F = ints (R.take j) ∧ f = -1 ∧ g = -1 ∧ R.takeWhile (em s) = R.take j ++ (R.drop j).takeWhile (em s) ∧ R.dropWhile (em s) = (R.drop j).dropWhile (em s)) ∨
  (p = 1 ∧ j ≤ R.length ∧ F = ints (R.takeWhile (em s)) ∧ f = hd (R.dropWhile (em s)) ∧ g = -1 ∧ (R.dropWhile (em s)).tail.dropWhile (em s) = (R.drop j).dropWhile (em s)) ∨
  (p = 2 ∧ j ≤ R.length ∧ F = ints (R.takeWhile (em s)) ∧ f = hd (R.dropWhile (em s)) ∧ g = hd ((R.dropWhile (em s)).tail.dropWhile (em s)))
def LineEnd (s : ByteArray) (R : List Nat) (F : List Int) (f g : Int) : Prop :=
  F = ints (R.takeWhile (em s)) ∧ f = hd (R.dropWhile (em s)) ∧ g = hd ((R.dropWhile (em s)).tail.dropWhile (em s))
theorem line_start (s : ByteArray) (R : List Nat) : LineSt s R 0 0 [] (-1) (-1) := .inl ⟨rfl, by omega, rfl, rfl, rfl, rfl, rfl⟩
theorem line_two {s : ByteArray} {R : List Nat} {j : Nat} {F : List Int} {f g : Int} (h : LineSt s R j 2 F f g) : LineEnd s R F f g := by
  rcases h with h | h | h
  · exact absurd h.1 (by omega)
  · exact absurd h.1 (by omega)
  · exact h.2.2
theorem line_out {s : ByteArray} {R : List Nat} {j p : Nat} {F : List Int} {f g : Int} (h : LineSt s R j p F f g) (hp : p < 2) (hn : R[j]? = none) : LineEnd s R F f g := by
  have hd0 : R.drop j = [] := List.drop_eq_nil_of_le (by rw [List.getElem?_eq_none_iff] at hn; exact hn)
  rcases h with ⟨_, _, hF, hf, hg, h1, h2⟩ | ⟨_, _, hF, hf, hg, h1⟩ | h
  · rw [hd0] at h1 h2
    refine ⟨by rw [hF, h1]; simp, by rw [h2, hf]; rfl, by rw [h2, hg]; rfl⟩
  · rw [hd0] at h1
    exact ⟨hF, hf, by rw [h1, hg]; rfl⟩
  · omega
theorem line_len {s : ByteArray} {R : List Nat} {j p : Nat} {F : List Int} {f g : Int} (h : LineSt s R j p F f g) : F.length ≤ R.length ∧ j ≤ R.length := by
  have htw : (R.takeWhile (em s)).length ≤ R.length := (List.takeWhile_sublist (em s) (l := R)).length_le
  rcases h with ⟨_, h0, rfl, _⟩ | ⟨_, h0, rfl, _⟩ | ⟨_, h0, rfl, _⟩
  · simp [ints]; omega
  · simp [ints]; omega
  · simp [ints]; omega
theorem line_free {s : ByteArray} {R : List Nat} {j t : Nat} {F : List Int} {f g : Int} (h : LineSt s R j 0 F f g) (ht : R[j]? = some t) (he : em s t = true) : LineSt s R (j + 1) 0 (F ++ [(t : Int)]) f g := by
  have hj := (List.getElem?_eq_some_iff.1 ht).1
  rcases h with ⟨_, h0, hF, hf, hg, h1, h2⟩ | h | h
  · rw [drop_cons' ht, List.takeWhile_cons, if_pos he] at h1
    rw [drop_cons' ht, List.dropWhile_cons, if_pos he] at h2
    refine .inl ⟨rfl, by omega, ?_, hf, hg, ?_, h2⟩
    · rw [take_snoc ht, hF]; simp [ints]
    · rw [h1, take_snoc ht]; simp
  · exact absurd h.1 (by omega)
  · exact absurd h.1 (by omega)
theorem line_first {s : ByteArray} {R : List Nat} {j t : Nat} {F : List Int} {f g : Int} (h : LineSt s R j 0 F f g) (ht : R[j]? = some t) (he : em s t = false) : LineSt s R (j + 1) 1 F t g := by
  have hj := (List.getElem?_eq_some_iff.1 ht).1
  rcases h with ⟨_, h0, hF, hf, hg, h1, h2⟩ | h | h
  · rw [drop_cons' ht, List.takeWhile_cons, if_neg (by rw [he]; simp)] at h1
    rw [drop_cons' ht, List.dropWhile_cons, if_neg (by rw [he]; simp)] at h2
    refine .inr (.inl ⟨rfl, by omega, ?_, ?_, hg, ?_⟩)
    · rw [hF, h1]; simp
    · rw [h2]; rfl
    · rw [h2]; rfl
  · exact absurd h.1 (by omega)
  · exact absurd h.1 (by omega)
theorem line_pass {s : ByteArray} {R : List Nat} {j t : Nat} {F : List Int} {f g : Int} (h : LineSt s R j 1 F f g) (ht : R[j]? = some t) (he : em s t = true) : LineSt s R (j + 1) 1 F f g := by
  have hj := (List.getElem?_eq_some_iff.1 ht).1
  rcases h with h | ⟨_, h0, hF, hf, hg, h1⟩ | h
  · exact absurd h.1 (by omega)
  · rw [drop_cons' ht, List.dropWhile_cons, if_pos he] at h1
    exact .inr (.inl ⟨rfl, by omega, hF, hf, hg, h1⟩)
  · exact absurd h.1 (by omega)
theorem line_second {s : ByteArray} {R : List Nat} {j t : Nat} {F : List Int} {f g : Int} (h : LineSt s R j 1 F f g) (ht : R[j]? = some t) (he : em s t = false) : LineSt s R (j + 1) 2 F f t := by
  have hj := (List.getElem?_eq_some_iff.1 ht).1
  rcases h with h | ⟨_, h0, hF, hf, hg, h1⟩ | h
  · exact absurd h.1 (by omega)
  · rw [drop_cons' ht, List.dropWhile_cons, if_neg (by rw [he]; simp)] at h1
    exact .inr (.inr ⟨rfl, by omega, hF, hf, by rw [h1]; rfl⟩)
  · exact absurd h.1 (by omega)
theorem dir_small : ∀ w ∈ dirs, -1 ≤ w.1 ∧ w.1 ≤ 1 ∧ -1 ≤ w.2 ∧ w.2 ≤ 1 := by decide
/-- The square that a step comes to. -/
theorem ray_at (n : Nat) (hn : n < 90) (w : Int × Int) (hw : w ∈ dirs) (j : Nat) (hj : j ≤ (rayN n w).length) :
    stepN n (((j : Int) + 1) * w.1) (((j : Int) + 1) * w.2) = (match (rayN n w)[j]? with | none => -1 | some t => (t : Int)) ∧ (∀ t, (rayN n w)[j]? = some t → t < 90) ∧
    (-10 ≤ ((j : Int) + 1) * w.1 ∧ ((j : Int) + 1) * w.1 ≤ 10) ∧ (-10 ≤ ((j : Int) + 1) * w.2 ∧ ((j : Int) + 1) * w.2 ≤ 10) := by
  obtain ⟨g1, g2, g3⟩ := ray_geo ⟨n, hn⟩ w hw
  simp only at g2
  have hb := dir_small w hw
  have m1 : ((j : Int) + 1) * w.1 = ((j : Nat) : Int) * w.1 + w.1 := by rw [Int.add_mul]; simp
  have m2 : ((j : Int) + 1) * w.2 = ((j : Nat) : Int) * w.2 + w.2 := by rw [Int.add_mul]; simp
  have key : ∀ d : Int, -1 ≤ d → d ≤ 1 → -10 ≤ (j : Int) * d + d ∧ (j : Int) * d + d ≤ 10 := by
    intro d h1 h2
    have : d = -1 ∨ d = 0 ∨ d = 1 := by omega
    rcases this with h | h | h <;> rw [h] <;> omega
  rw [m1, m2]
  refine ⟨?_, ?_, key _ hb.1 hb.2.1, key _ hb.2.2.1 hb.2.2.2⟩
  · cases hr : (rayN n w)[j]? with
    | none =>
      have hl := List.getElem?_eq_none_iff.1 hr
      exact g1 ⟨j, by omega⟩ hr (by simp only; omega)
    | some t =>
      have hl := (List.getElem?_eq_some_iff.1 hr).1
      exact (g3 ⟨j, by omega⟩ t (by simp only; rw [hr]; rfl)).1
  · intro t hr
    have hl := (List.getElem?_eq_some_iff.1 hr).1
    exact (g3 ⟨j, by omega⟩ t (by simp only; rw [hr]; rfl)).2
/-! ### the walk -/
def Halt (P : Prop) : Prop := P
theorem halt {P : Prop} (h : Halt P) : P := h
theorem Halt.go {P : Prop} (h : P) : Halt P := h
structure LnAt (w0 W : World) (s : ByteArray) (a x : Nat) (v : Value) (F : List Int) : Prop where
  vw : VwAt w0 W s a x
  own : OwnZ W (w0.heap.size + 1) v F
theorem LnAt.below {w0 W W' : World} {s : ByteArray} {a x : Nat} {v : Value} {F : List Int} (h : LnAt w0 W s a x v F) (hb : Below W.heap.size W W') : LnAt w0 W' s a x v F := ⟨h.vw.below hb, h.own.below hb⟩
set_option maxRecDepth 100000 in
set_option maxHeartbeats 4000000 in
theorem line_c (s : ByteArray) (hs : s.size = 90) (a x : Nat) (ha : a < 90) (d : Int × Int) (hd : d ∈ dirs) (w : World) : Calls Tryz.prog 203 #[vwV s a x, .int .i64 d.1, .int .i64 d.2] w fun e w' => ∃ v, e = .returned (.tuple #[v, .int .i64 (firstZ s a d), .int .i64 (secondZ s a d)]) ∧ OwnZ w' w.heap.size v (ints (freeL s a d)) ∧ Below w.heap.size w w' := by
  have HS := Aside0.mk (fun (f r : Int) (h1 : -60 ≤ f ∧ f ≤ 60) (h2 : -60 ≤ r ∧ r ≤ 60) (W : World) => step_c s a x ha f r h1 h2 W)
  have HI := Aside0.mk (fun n W => isq_c n W)
  have HRY := Aside0.mk (fun j hj => ray_at a ha d hd j hj)
  have hlen : (rayN a d).length ≤ 9 := (ray_geo ⟨a, ha⟩ d hd).2.1
  have HEND := Aside0.mk (show ∀ (F : List Int) (f g : Int), LineEnd s (rayN a d) F f g → F = ints (freeL s a d) ∧ f = firstZ s a d ∧ g = secondZ s a d from fun F f g h => h)
  have HB := Aside0.mk (VwAt.new w s a x)
  have hu := Tryz.underlying152
  have HSZ := Aside0.mk hs
  generalize rayN a d = R at *
  generalize firstZ s a d = z1 at *
  generalize secondZ s a d = z2 at *
  generalize freeL s a d = fl at *
  obtain ⟨d1, d2⟩ := d
  simp only at HRY
  have HLR := Aside0.mk hlen
  clear ha hs hd hlen
  go_enter Tryz.func203, Tryz.ntmps203
  go_wp2_with fail
  have HL0 := Aside0.mk (show LnAt w _ s a x (.slice none 0 0) [] from ⟨HB.out, own_znil _ _⟩)
  generalize w.alloc (.cells #[.string s, .int .i64 (a : Int), .int .u8 (x : Int)] 152) = W1 at *
  go_loopg [6, 7, 8, 9, 10] 12 (fun gg s6 s7 s8 s9 s10 wr => ∃ (j p : Nat) (F : List Int) (f g : Int), s7 = .int .i64 f ∧ s8 = .int .i64 g ∧ s9 = .int .i64 (p : Int) ∧ s10 = .int .i64 ((j : Int) + 1) ∧ j + gg = 12 ∧ p ≤ 2 ∧ Aside0 (LineSt s R j p F f g) ∧ Aside0 (LnAt w wr s a x s6 F))
  case atStart => exact ⟨0, 0, [], -1, -1, rfl, rfl, rfl, rfl, by omega, by omega, ⟨line_start s R⟩, HL0⟩
  case round =>
    clear HL0 HB
    obtain ⟨j, p, F, f, g, rfl, rfl, rfl, rfl, hj, hp, HST, HL⟩ := hrel
    obtain ⟨hFl, hjl⟩ := line_len HST.out
    have hR := HLR.out
    obtain ⟨hr1, hr2, hr3, hr4⟩ := HRY.out j hjl
    have HR2 := Aside0.mk hr2
    have HF9 := Aside0.mk (show F.length ≤ 9 by omega)
    obtain ⟨gk, rfl⟩ : ∃ g', gk = g' + 1 := ⟨gk - 1, by omega⟩
    have HJ := Aside0.mk (show j + 1 + gk = 12 by omega)
    have k0 : 1 ≤ (j : Int) + 1 := by omega
    have k1 : (j : Int) + 1 ≤ 12 := by omega
    have HK := Aside0.mk (show ((j + 1 : Nat) : Int) + 1 = (j : Int) + 1 + 1 by omega)
    obtain ⟨m1, m2⟩ := hr3
    obtain ⟨m3, m4⟩ := hr4
    generalize (j : Int) + 1 = k at *
    obtain ⟨c0, c1, c2, _⟩ := HL.out.vw
    have HPP : p = 0 ∨ p = 1 ∨ p = 2 := by omega
    clear hp hj hFl hjl hR hr2
    rcases HPP with rfl | rfl | rfl
    case inr.inr =>
      obtain ⟨e1, rfl, rfl⟩ := HEND.out _ _ _ (line_two HST.out)
      clear m1 m2 m3 m4 hr1
      go_wp2_with fail
      go_returns
      exact ⟨_, rfl, e1 ▸ HL.out.own.lower (by omega), HL.out.vw.bel⟩
    all_goals
      go_wp2_with fail
      refine (HS.out _ _ (by omega) (by omega) _).mono ?_
      rintro e w2 ⟨rfl, hb⟩
      have HL2 := Aside0.mk (HL.out.below hb)
      clear hb HL c0 c1 c2
      rw [hr1]
      clear hr1 m1 m2 m3 m4
      obtain ⟨c0, c1, c2, _⟩ := HL2.out.vw
      cases hr : R[j]? with
      | none =>
        have HI1 := HI.out (-1)
        rw [show decide ((0 : Int) ≤ -1 ∧ (-1 : Int) < 90) = false from rfl] at HI1
        have HI1 := Aside0.mk (fun W => (HI1 W))
        obtain ⟨e1, rfl, rfl⟩ := HEND.out _ _ _ (line_out HST.out (by omega) hr)
        simp only
        go_wp2_with (go_at_call 133; refine (HI1.out _).mono ?_; rintro e w3 ⟨rfl, rfl⟩)
        go_returns
        exact ⟨_, rfl, e1 ▸ HL2.out.own.lower (by omega), HL2.out.vw.bel⟩
      | some t =>
        have ht90 := HR2.out t hr
        have HI1 := HI.out (t : Int)
        rw [show decide ((0 : Int) ≤ (t : Int) ∧ (t : Int) < 90) = true from decide_eq_true (by omega)] at HI1
        have HI1 := Aside0.mk (fun W => (HI1 W))
        have t0 : 0 ≤ (t : Int) := by omega
        have t1 : (t : Int) < (s.size : Int) := by rw [HSZ.out]; omega
        have q : ((cel s t : Int) == 46) = em s t := by unfold em; rw [Bool.eq_iff_iff, beq_iff_eq, beq_iff_eq]; omega
        have HRT := Aside0.mk hr
        clear ht90 hr
        simp only
        cases he : em s t
        all_goals
          rw [he] at q
          have HE := Aside0.mk he
          clear he
          go_wp2_with (first | (go_at_call 133; refine (HI1.out _).mono ?_; rintro e w3 ⟨rfl, rfl⟩) | (at_builtin; refine halt ?_))
          first
          | (go_roundg gk
             case measure => omega
             case rel =>
               first
               | exact ⟨j + 1, 1, F, t, g, rfl, rfl, rfl, by rw [HK.out], by have := HJ.out; omega, by omega, ⟨line_first HST.out HRT.out HE.out⟩, HL2⟩
               | exact ⟨j + 1, 1, F, f, g, rfl, rfl, rfl, by rw [HK.out], by have := HJ.out; omega, by omega, ⟨line_pass HST.out HRT.out HE.out⟩, HL2⟩
               | exact ⟨j + 1, 2, F, f, t, rfl, rfl, rfl, by rw [HK.out], by have := HJ.out; omega, by omega, ⟨line_second HST.out HRT.out HE.out⟩, HL2⟩)
          | (refine Halt.go ?_
             refine print_append_num (w.heap.size + 1) (by rfl) _ _ _ 3 .i64 8 (by rfl) Tryz.underlying94 info_intZ (by omega) _ F (t : Int) (by rfl) (by rfl) HL2.out.own (Below.refl _ _) HL2.out.vw.lt (by have := HF9.out; omega) ?_
             intro v1 w4 hown hB hgrow hat
             have HL3 : Aside0 (LnAt w w4 s a x v1 (F ++ [(t : Int)])) := ⟨⟨HL2.out.vw.keep (by omega) hB, hown⟩⟩
             clear hown hB hgrow hat
             go_wp2_with fail
             go_roundg gk
             case measure => omega
             case rel => exact ⟨j + 1, 0, F ++ [(t : Int)], f, g, rfl, rfl, rfl, by rw [HK.out], by have := HJ.out; omega, by omega, ⟨line_free HST.out HRT.out HE.out⟩, HL3⟩)
end Go.Proofs.YtafmapadkpjliaaGreatDoor.K

/- Walks: reach's lines, chariot, cannon, horse. -/
namespace Go.Proofs.YtafmapadkpjliaaGreatDoor.K
open Go.RowKit Go.Lib Go.Proofs.YtafmapadkpjliaaGreatDoorW.PrintWords Go.Proofs.YtafmapadkpjliaaGreatDoorW.PrintLast Go.Proofs.YtafmapadkpjliaaGreatDoorW.PrintMore Go.Proofs.YtafmapadkpjliaaGreatDoor.Sp
set_option linter.unusedVariables false
set_option linter.unusedSimpArgs false
attribute [local go_sem] cel_get   -- for this text's walks alone
/-- The four ways, as they lie in memory. -/
def dirC : List Value := [.int .i64 1, .int .i64 0, .int .i64 (-1), .int .i64 0, .int .i64 0, .int .i64 1, .int .i64 0, .int .i64 (-1)]
theorem dir_at : ∀ i, i < 4 → (dirs[i]?).isSome = true ∧ ∀ d, dirs[i]? = some d → d ∈ dirs ∧ dirC[i * 2]? = some (.int .i64 d.1) ∧ dirC[i * 2 + 1]? = some (.int .i64 d.2) := by
  intro i hi
  match i, hi with
  | 0, _ | 1, _ | 2, _ | 3, _ => exact ⟨rfl, fun d h => by cases h; exact ⟨by decide, rfl, rfl⟩⟩
theorem dirs_take (f : Int × Int → List Int) (i : Nat) (d : Int × Int) (h : dirs[i]? = some d) : (dirs.take (i + 1)).flatMap f = (dirs.take i).flatMap f ++ f d := by
  obtain ⟨hj, rfl⟩ := List.getElem?_eq_some_iff.1 h
  rw [List.take_succ_eq_append_getElem hj, List.flatMap_append]
  simp
/-- What the loops over the four ways keep. -/
structure DrAt (w0 W : World) (s : ByteArray) (a x : Nat) (g : Nat) (v : Value) (l : List Int) : Prop where
  vw : VwAt w0 W s a x
  dir : ∀ j c, dirC[j]? = some c → W.cell? ⟨g, j, none⟩ = some c
  dlt : w0.heap.size < g ∧ g < W.heap.size
  own : OwnZ W (g + 1) v l
theorem DrAt.keep {w0 W W' : World} {s : ByteArray} {a x : Nat} {g : Nat} {v v' : Value} {l l' : List Int} (h : DrAt w0 W s a x g v l) (hb : Below (g + 1) W W') (ho : OwnZ W' (g + 1) v' l') : DrAt w0 W' s a x g v' l' :=
  ⟨h.vw.keep (by have := h.dlt; omega) hb, fun j c hc => (hb.cell (p := ⟨g, j, none⟩) (by show g < g + 1; omega)).trans (h.dir j c hc), ⟨h.dlt.1, Nat.lt_of_lt_of_le h.dlt.2 hb.size⟩, ho⟩
theorem DrAt.below {w0 W W' : World} {s : ByteArray} {a x : Nat} {g : Nat} {v : Value} {l : List Int} (h : DrAt w0 W s a x g v l) (hb : Below W.heap.size W W') : DrAt w0 W' s a x g v l :=
  h.keep (hb.mono (by have := h.dlt; omega)) (h.own.below hb)
theorem dr_new (w : World) (s : ByteArray) (a x : Nat) : DrAt w ((w.alloc (.cells #[.string s, .int .i64 (a : Int), .int .u8 (x : Int)] 152)).alloc (.cells #[.int .i64 1, .int .i64 0, .int .i64 (-1), .int .i64 0, .int .i64 0, .int .i64 1, .int .i64 0, .int .i64 (-1)] 127)) s a x (w.heap.size + 1) (.slice none 0 0) [] := by
  refine ⟨(VwAt.new w s a x).below (below_alloc (Below.refl _ _) _), fun j c hc => ?_, ⟨by omega, by simp⟩, own_znil _ _⟩
  have hj : j < 8 := (List.getElem?_eq_some_iff.1 hc).1
  match j, hj with
  | 0, _ | 1, _ | 2, _ | 3, _ | 4, _ | 5, _ | 6, _ | 7, _ => cases hc; simp [World.cell?_alloc_at]
theorem flat_len (s : ByteArray) (a : Nat) (b : Bool) (h : ∀ d ∈ dirs, (lineAdd s a b d).length ≤ 10) (i : Nat) (hi : i ≤ 4) : ((dirs.take i).flatMap (lineAdd s a b)).length ≤ 40 := by
  have a0 := h (1, 0) (by decide); have a1 := h (-1, 0) (by decide); have a2 := h (0, 1) (by decide); have a3 := h (0, -1) (by decide)
  match i, hi with
  | 0, _ | 1, _ | 2, _ | 3, _ | 4, _ => simp only [dirs, List.take_succ_cons, List.take_zero, List.flatMap_cons, List.flatMap_nil, List.length_append, List.length_nil]; omega
set_option maxRecDepth 100000 in
set_option maxHeartbeats 4000000 in
theorem lines_c (s : ByteArray) (hs : s.size = 90) (a x : Nat) (ha : a < 90) (b : Bool) (w : World) : Calls Tryz.prog 182 #[vwV s a x, .bool b] w fun e w' => ∃ v, e = .returned v ∧ OwnZ w' w.heap.size v (dirs.flatMap (lineAdd s a b)) ∧ Below w.heap.size w w' := by
  have HLN := Aside0.mk (fun d hd W => line_c s hs a x ha d hd W)
  have HFL := Aside0.mk (fun d hd => free_len s a ha d hd)
  have HLL := Aside0.mk (fun d hd => lineAdd_len s a ha b d hd)
  have HB := Aside0.mk (VwAt.new w s a x)
  have hu := Tryz.underlying152
  clear hs ha
  go_enter Tryz.func182, Tryz.ntmps182
  go_wp2_with fail
  have HD := Aside0.mk (dr_new w s a x)
  generalize ((w.alloc (.cells #[.string s, .int .i64 (a : Int), .int .u8 (x : Int)] 152)).alloc (.cells #[.int .i64 1, .int .i64 0, .int .i64 (-1), .int .i64 0, .int .i64 0, .int .i64 1, .int .i64 0, .int .i64 (-1)] 127)) = W2 at *
  have HD := Aside0.mk (show DrAt w W2 s a x (w.heap.size + 1) (.slice none 0 0) ((dirs.take 0).flatMap (lineAdd s a b)) from HD.out)
  go_loopg [5, 7, 8, 9, 10, 17] 4 (fun gg s5 _ _ _ _ s17 wr => ∃ i : Nat, s17 = .int .i64 (i : Int) ∧ i + gg = 4 ∧ Aside0 (DrAt w wr s a x (w.heap.size + 1) s5 ((dirs.take i).flatMap (lineAdd s a b))))
  case atStart => exact ⟨0, rfl, by omega, HD⟩
  case round =>
    clear HD HB
    obtain ⟨i, rfl, hi, HD⟩ := hrel
    cases gk with
    | zero =>
      have hn : ¬ ((i : Int) < 4) := by omega
      have HI := Aside0.mk (show i = 4 by omega)
      clear hi
      go_wp2_with fail
      go_ret
      refine ⟨_, rfl, ?_, HD.out.vw.bel⟩
      have := HD.out.own.lower (B' := w.heap.size) (by omega)
      rw [HI.out] at this
      exact this
    | succ gk =>
      have hn : (i : Int) < 4 := by omega
      have hib : 0 ≤ (i : Int) := by omega
      have HI := Aside0.mk (show i + 1 + gk = 4 by omega)
      obtain ⟨hs1, hs2⟩ := dir_at i (by omega)
      obtain ⟨d, hd⟩ := Option.isSome_iff_exists.1 hs1
      obtain ⟨hm, k0, k1⟩ := hs2 d hd
      have x0 := HD.out.dir _ _ k0
      have x1 := HD.out.dir _ _ k1
      have HLN1 := Aside0.mk (fun W => HLN.out d hm W)
      have HST := Aside0.mk (dirs_take (lineAdd s a b) i d hd)
      have HF9 := Aside0.mk (HFL.out d hm)
      have HAL := Aside0.mk (show ((dirs.take i).flatMap (lineAdd s a b)).length ≤ 40 from flat_len s a b HLL.out i (by omega))
      have HLA := Aside0.mk (show lineAdd s a b d = ints (freeL s a d) ++ [if b = true then secondZ s a d else firstZ s a d] from rfl)
      generalize (dirs.take i).flatMap (lineAdd s a b) = acc at *
      generalize firstZ s a d = z1 at *
      generalize secondZ s a d = z2 at *
      generalize freeL s a d = fl at *
      generalize lineAdd s a b d = la at *
      obtain ⟨d1, d2⟩ := d
      simp only at x0 x1 HLN1
      clear hi hs1 hs2 hd hm k0 k1
      obtain ⟨c0, c1, c2, _⟩ := HD.out.vw
      have hl0 : w.heap.size < wr.heap.size := HD.out.vw.lt
      have hl1 : w.heap.size + 1 < wr.heap.size := HD.out.dlt.2
      have HD1 := Aside0.mk (HD.out.below (below_alloc (Below.refl _ _) (.cells #[.int .i64 d1, .int .i64 d2] 127)))
      go_wp2_with fail
      refine (HLN1.out _).mono ?_
      rintro e w2 ⟨v, rfl, h1, hb⟩
      have HD2 := Aside0.mk (HD1.out.below hb)
      have HO2 := Aside0.mk h1
      have HLF := Aside0.mk (show (ints fl).length ≤ 9 by simp [ints]; exact HF9.out)
      generalize ints fl = fl' at *
      obtain ⟨A, cap, rfl⟩ := HO2.out.form
      clear h1 hb HD HD1 c0 c1 c2 hl0 hl1 x0 x1
      go_wp2_with (at_builtin; refine halt ?_)
      refine Halt.go ?_
      refine print_append_row (w.heap.size + 1 + 1) (by rfl) _ _ _ 3 .i64 8 (by rfl) Tryz.underlying94 info_intZ (by omega) _ acc fl' A fl'.length cap (by rfl) (by rfl) HD2.out.own (own_reads' HO2.out) (Below.refl _ _) HD2.out.dlt.2 (by have := HAL.out; have := HLF.out; omega) ?_
      intro v1 w3 hown hB hgrow hat
      have HD3 := Aside0.mk (HD2.out.keep hB hown)
      have HL3 := Aside0.mk (show (acc ++ fl').length ≤ 49 by rw [List.length_append]; have := HAL.out; have := HLF.out; omega)
      clear hown hB hgrow hat HD2 HO2
      cases b
      all_goals
        go_wp2_with (at_builtin; refine halt ?_)
        refine Halt.go ?_
        refine print_append_num (w.heap.size + 1 + 1) (by rfl) _ _ _ 3 .i64 8 (by rfl) Tryz.underlying94 info_intZ (by omega) _ (acc ++ fl') _ (by rfl) (by rfl) HD3.out.own (Below.refl _ _) HD3.out.dlt.2 (by have := HL3.out; omega) ?_
        intro v2 w4 hown hB hgrow hat
        have HD4 := Aside0.mk (HD3.out.keep hB hown)
        clear hown hB hgrow hat HD3
        go_wp2_with fail
        go_roundg gk
        case measure => omega
        case rel =>
          refine ⟨i + 1, by go_num, by have := HI.out; omega, ⟨?_⟩⟩
          rw [HST.out, HLA.out, ← List.append_assoc]
          exact HD4.out
end Go.Proofs.YtafmapadkpjliaaGreatDoor.K

/- Walks: reach's pawn, allowed, general, advisor, elephant. -/
namespace Go.Proofs.YtafmapadkpjliaaGreatDoor.K
open Go.RowKit Go.Lib Go.Proofs.YtafmapadkpjliaaGreatDoorW.PrintWords Go.Proofs.YtafmapadkpjliaaGreatDoorW.PrintLast Go.Proofs.YtafmapadkpjliaaGreatDoorW.PrintMore Go.Proofs.YtafmapadkpjliaaGreatDoor.Sp
set_option linter.unusedVariables false
set_option linter.unusedSimpArgs false
attribute [local go_sem] cel_get   -- for this text's walks alone
/-! ### allowed -/
theorem allowed_closure (x : Nat) (hx : x < 256) (y : Int) (B : Nat) (W : World) (hc : W.cell? ⟨B, 2, none⟩ = some (.int .u8 (x : Int))) :
    Calls Tryz.prog 201 (#[.int .i64 y] ++ #[.pointer (some ⟨B, 0, none⟩)]) W fun e W' => e = .returned (.bool (!(mayZ x y))) ∧ Below W.heap.size W W' := by
  have HM := Aside0.mk (fun W => may_c x hx y W)
  rw [mayS_eq] at HM
  show Calls Tryz.prog 201 #[.int .i64 y, .pointer (some ⟨B, 0, none⟩)] W _
  go_enter Tryz.func201, Tryz.ntmps201
  go_wp2_with (go_at_call 94; refine (HM.out _).mono ?_; rintro e w' ⟨rfl, hb⟩)
  go_ret
  exact ⟨rfl, hb⟩
theorem blk_of_cells {w : World} {o : Obj} {W : World} {b : Nat} (hk : KeepBut (w.alloc o) W b none) (hb : b ≠ w.heap.size) : W.heap[w.heap.size]? = some o := hk.blk (blk_new w o) (fun h => hb h.symm) (by simp)
set_option maxHeartbeats 1000000 in
theorem allowed_c (s : ByteArray) (a x : Nat) (hx : x < 256) (B : Nat) (v : Value) (l : List Int) (w : World) (hB : B ≤ w.heap.size) (ho : OwnZ w B v l) :
    Calls Tryz.prog 177 #[vwV s a x, v] w fun e w' => ∃ v', e = .returned v' ∧ OwnZ w' B v' (l.filter (mayZ x)) ∧ Below B w w' := by
  have hfil : (l.filter fun y => !(fun y => !(mayZ x y)) y) = l.filter (mayZ x) := by congr 1; funext y; simp
  have hD := del_Z 201 #[.pointer (some ⟨w.heap.size, 0, none⟩)] (fun y => !(mayZ x y)) (enters_of Tryz.func201 (by kernel_rfl) rfl) B v l (w.alloc (.cells #[.string s, .int .i64 (a : Int), .int .u8 (x : Int)] 152)) (by simp; omega) (ho.below (below_alloc (Below.refl _ _) _)) (by
    intro b _ _ hob W y hy hk
    have hlt := (ho.lt b hob).2
    have hblk := blk_of_cells hk (by omega)
    have hcell : W.cell? ⟨w.heap.size, 2, none⟩ = some (.int .u8 (x : Int)) := (blk_cell hblk 2).trans rfl
    exact allowed_closure x hx y _ W hcell)
  rw [hfil] at hD
  have HD := Aside0.mk hD
  have hu := Tryz.underlying152
  have HB0 := Aside0.mk hB
  clear hD hfil ho hB
  go_enter Tryz.func177, Tryz.ntmps177
  go_wp2_with (go_at_call 136; refine HD.out.mono ?_; rintro e w' ⟨v', rfl, h1, h2⟩)
  go_ret
  exact ⟨_, rfl, h1, ((below_alloc (Below.refl _ _) _).mono HB0.out).trans h2⟩
/-! ### general, advisor, elephant -/
theorem own_ints {W : World} {B : Nat} {v : Value} {l : List Int} (h : OwnZ W B v l) (hl : 0 < l.length) : ∃ g cap, v = .slice (some ⟨g, 0, none⟩) l.length cap ∧ B ≤ g ∧ g < W.heap.size ∧ ∀ j u, (nums .i64 l)[j]? = some u → W.cell? ((⟨g, 0, none⟩ : Addr).add j) = some u := by
  obtain ⟨g, cap, rfl, hb, hg⟩ := World.ownsRow.form h hl
  exact ⟨g, cap, rfl, hb, hg, fun j u hu => World.ownsRow.cells h (g := g) rfl j u hu⟩
set_option maxRecDepth 100000 in
set_option maxHeartbeats 4000000 in
theorem general_c (s : ByteArray) (a x : Nat) (ha : a < 90) (hx : x < 256) (w : World) : Calls Tryz.prog 163 #[vwV s a x] w fun e w' => ∃ v, e = .returned v ∧ OwnZ w' w.heap.size v ((kingL a).filter (mayZ x)) ∧ Below w.heap.size w w' := by
  have HF1 := Aside0.mk (fun W => four_c s a x ha 1 0 (by omega) (by omega) W)
  have HF2 := Aside0.mk (fun W => four_c s a x ha 0 1 (by omega) (by omega) W)
  have HAL := Aside0.mk (fun (v : Value) (W : World) (h1 : w.heap.size + 1 ≤ W.heap.size) (h2 : OwnZ W (w.heap.size + 1) v (kingL a)) => allowed_c s a x hx (w.heap.size + 1) v (kingL a) W h1 h2)
  have HK := Aside0.mk (show fourZ a 1 0 ++ fourZ a 0 1 = kingL a from rfl)
  have hn1 := Aside0.mk (show (fourZ a 1 0).length = 4 from rfl)
  have hn2 := Aside0.mk (show (fourZ a 0 1).length = 4 from rfl)
  obtain ⟨i0, hi0, hx0⟩ := Option.map_eq_some_iff.1 info_intZ
  simp only [Prod.mk.injEq] at hx0
  have HZ := Aside0.mk (⟨hi0, hx0⟩ : _ ∧ _)
  clear hx0 hi0
  generalize fourZ a 1 0 = l1 at *
  generalize fourZ a 0 1 = l2 at *
  have HB := Aside0.mk (VwAt.new w s a x)
  have hu := Tryz.underlying152
  clear ha hx
  go_enter Tryz.func163, Tryz.ntmps163
  go_wp2_with fail
  generalize w.alloc (.cells #[.string s, .int .i64 (a : Int), .int .u8 (x : Int)] 152) = W1 at *
  have HA := Aside0.mk HB.out.drew
  obtain ⟨c0, c1, c2, _⟩ := HB.out
  go_region_held3 (fun W => W.cell? ⟨w.heap.size, 0, none⟩ = some (.string s) ∧ W.cell? ⟨w.heap.size, 1, none⟩ = some (.int .i64 (a : Int)) ∧ W.cell? ⟨w.heap.size, 2, none⟩ = some (.int .u8 (x : Int))) (go_keep)
    (first
      | (go_at_call 178; (with_reducible refine (HF1.out _).mono ?_); rintro e w2 ⟨v1, rfl, h1, hb⟩; have HV1 := Aside0.mk (h1.lower (show w.heap.size + 1 ≤ _ from HA.out.lt)); have HA2 := Aside0.mk (HA.out.below hb); clear HA h1 hb c0 c1 c2; obtain ⟨c0, c1, c2, _⟩ := HA2.out)
      | (go_at_call 178; (with_reducible refine (HF2.out _).mono ?_); rintro e w3 ⟨v2, rfl, h1, hb⟩; have HV2 := Aside0.mk (h1.lower (show w.heap.size + 1 ≤ _ from HA2.out.lt)); have HV1' := Aside0.mk (HV1.out.below hb); have HA3 := Aside0.mk (HA2.out.below hb); clear HA2 HV1 h1 hb c0 c1 c2; obtain ⟨c0, c1, c2, _⟩ := HA3.out; obtain ⟨g2, cap2, rfl, hg2, hg2', hn2'⟩ := own_ints HV2.out (by rw [hn2.out]; omega); rw [hn2.out])
      | (refine step_append_lies _ (by rfl) _ _ _ (by rfl) (w.heap.size + 1) 3 i0 _ 1 8 Tryz.underlying94 HZ.out.1 HZ.out.2.1 HZ.out.2.2.1 HZ.out.2.2.2 rfl (by omega) _ l1.length (nums .i64 l1) (by rfl) HV1'.out ⟨g2, 0, none⟩ 4 cap2 (nums .i64 l2) (by rfl) (by rw [nums_length, hn2.out]) hn2' (fun u hu => by obtain ⟨z, _, rfl⟩ := List.mem_map.1 hu; rfl) (by omega) (by rw [hn1.out]; unfold maxLen; omega) (by rw [hn1.out]; omega) (by have := HA3.out.lt; omega) _ rfl ?_; intro gg cap1 w4 hown1 hgrow hat hlt; have HB4 := (Below.refl (w.heap.size + 1) _).grown hgrow HA3.out.lt (fun k hk => (HV1'.out.lt k hk).1); have HA4 := Aside0.mk (HA3.out.keep (by omega) HB4); have HV4 : Aside0 (OwnZ w4 (w.heap.size + 1) (.slice (some ⟨gg, 0, none⟩) (l1.length + 4) cap1) (kingL a)) := ⟨by unfold OwnZ; rw [← HK.out, List.length_append, hn2.out, nums_append]; exact hown1⟩; clear HA3 HB4 hown1 hgrow hat hlt hn2' c0 c1 c2; obtain ⟨c0, c1, c2, _⟩ := HA4.out)
      | (go_at_call 177; refine (HAL.out _ _ HA4.out.lt HV4.out).mono ?_; rintro e w5 ⟨v5, rfl, h1, hb⟩; have HA5 := Aside0.mk (HA4.out.keep (by omega) hb); have HV5 := Aside0.mk h1; clear h1 hb HA4 c0 c1 c2; obtain ⟨c0, c1, c2, _⟩ := HA5.out))
  all_goals
    go_wp2_with fail
    go_ret
    exact ⟨_, rfl, HV5.out.lower (by omega), HA5.out.bel⟩
set_option maxRecDepth 100000 in
set_option maxHeartbeats 4000000 in
theorem vadvisor_c (s : ByteArray) (a x : Nat) (ha : a < 90) (hx : x < 256) (w : World) : Calls Tryz.prog 164 #[vwV s a x] w fun e w' => ∃ v, e = .returned v ∧ OwnZ w' w.heap.size v ((fourL a 1).filter (mayZ x)) ∧ Below w.heap.size w w' := by
  have HF1 := Aside0.mk (fun W => four_c s a x ha 1 1 (by omega) (by omega) W)
  have HAL := Aside0.mk (fun (v : Value) (W : World) (h1 : w.heap.size + 1 ≤ W.heap.size) (h2 : OwnZ W (w.heap.size + 1) v (fourL a 1)) => allowed_c s a x hx (w.heap.size + 1) v (fourL a 1) W h1 h2)
  rw [show fourZ a 1 1 = fourL a 1 from rfl] at HF1
  generalize fourL a 1 = l1 at *
  have HB := Aside0.mk (VwAt.new w s a x)
  have hu := Tryz.underlying152
  clear ha hx
  go_enter Tryz.func164, Tryz.ntmps164
  go_wp2_with fail
  generalize w.alloc (.cells #[.string s, .int .i64 (a : Int), .int .u8 (x : Int)] 152) = W1 at *
  have HA := Aside0.mk HB.out.drew
  obtain ⟨c0, c1, c2, _⟩ := HB.out
  go_region_held3 (fun W => W.cell? ⟨w.heap.size, 0, none⟩ = some (.string s) ∧ W.cell? ⟨w.heap.size, 1, none⟩ = some (.int .i64 (a : Int)) ∧ W.cell? ⟨w.heap.size, 2, none⟩ = some (.int .u8 (x : Int))) (go_keep)
    (first
      | (go_at_call 178; (with_reducible refine (HF1.out _).mono ?_); rintro e w2 ⟨v1, rfl, h1, hb⟩; have HV1 := Aside0.mk (h1.lower (show w.heap.size + 1 ≤ _ from HA.out.lt)); have HA2 := Aside0.mk (HA.out.below hb); clear HA h1 hb c0 c1 c2; obtain ⟨c0, c1, c2, _⟩ := HA2.out)
      | (go_at_call 177; refine (HAL.out _ _ HA2.out.lt HV1.out).mono ?_; rintro e w5 ⟨v5, rfl, h1, hb⟩; have HA5 := Aside0.mk (HA2.out.keep (by omega) hb); have HV5 := Aside0.mk h1; clear h1 hb HA2 c0 c1 c2; obtain ⟨c0, c1, c2, _⟩ := HA5.out))
  all_goals
    go_wp2_with fail
    go_ret
    exact ⟨_, rfl, HV5.out.lower (by omega), HA5.out.bel⟩
theorem elephant_closure (s : ByteArray) (hs : s.size = 90) (a x : Nat) (ha : a < 90) (y : Int) (hy : 0 ≤ y ∧ y < 90) (B : Nat) (W : World) (c0 : W.cell? ⟨B, 0, none⟩ = some (.string s)) (c1 : W.cell? ⟨B, 1, none⟩ = some (.int .i64 (a : Int))) (c2 : W.cell? ⟨B, 2, none⟩ = some (.int .u8 (x : Int))) :
    Calls Tryz.prog 179 (#[.int .i64 y] ++ #[.pointer (some ⟨B, 0, none⟩)]) W fun e W' => e = .returned (.bool (!(emptyZ s (halfZ a y)))) ∧ Below W.heap.size W W' := by
  have HM := Aside0.mk (fun n W => empty_c s hs a x n W)
  obtain ⟨t, rfl⟩ : ∃ t : Nat, y = t := ⟨y.toNat, by omega⟩
  have h1 := half_at a t
  have h2 : ((a : Int) + (t : Int)) / 2 = (((a + t) / 2 : Nat) : Int) := by omega
  rw [h1]
  have a0 : 0 ≤ (a : Int) := by omega
  have a1 : (a : Int) < 90 := by omega
  have t0 : 0 ≤ (t : Int) := by omega
  have t1 : (t : Int) < 90 := by omega
  generalize (((a + t) / 2 : Nat) : Int) = z at *
  have hu := Tryz.underlying152
  clear h1 hs hy ha
  show Calls Tryz.prog 179 #[.int .i64 (t : Int), .pointer (some ⟨B, 0, none⟩)] W _
  go_enter Tryz.func179, Tryz.ntmps179
  go_wp2_with (go_at_call 180; refine (HM.out _ _).mono ?_; rintro e w' ⟨rfl, hb⟩)
  go_ret
  exact ⟨rfl, hb⟩
set_option maxRecDepth 100000 in
set_option maxHeartbeats 4000000 in
theorem velephant_c (s : ByteArray) (hs : s.size = 90) (a x : Nat) (ha : a < 90) (hx : x < 256) (w : World) : Calls Tryz.prog 165 #[vwV s a x] w fun e w' => ∃ v, e = .returned v ∧ OwnZ w' w.heap.size v (((fourL a 2).filter (mayZ x)).filter (fun y => emptyZ s (halfZ a y))) ∧ Below w.heap.size w w' := by
  have HF1 := Aside0.mk (fun W => four_c s a x ha 2 2 (by omega) (by omega) W)
  have HAL := Aside0.mk (fun (v : Value) (W : World) (h1 : w.heap.size + 1 ≤ W.heap.size) (h2 : OwnZ W (w.heap.size + 1) v (fourL a 2)) => allowed_c s a x hx (w.heap.size + 1) v (fourL a 2) W h1 h2)
  rw [show fourZ a 2 2 = fourL a 2 from rfl] at HF1
  have hrg := range_may x (fourL a 2)
  generalize fourL a 2 = l1 at *
  have HD := Aside0.mk (show ∀ (W : World) (v : Value), VwAt w W s a x → OwnZ W (w.heap.size + 1) v (l1.filter (mayZ x)) →
      Calls Tryz.prog 136 #[v, .func (.func 179) #[] #[.pointer (some ⟨w.heap.size, 0, none⟩)]] W fun e w' => ∃ v', e = .returned v' ∧ OwnZ w' (w.heap.size + 1) v' ((l1.filter (mayZ x)).filter (fun y => emptyZ s (halfZ a y))) ∧ Below (w.heap.size + 1) W w' from by
    intro W v hV hO
    have hfil : ((l1.filter (mayZ x)).filter fun y => !(fun y => !(emptyZ s (halfZ a y))) y) = (l1.filter (mayZ x)).filter (fun y => emptyZ s (halfZ a y)) := by congr 1; funext y; simp
    have hD := del_Z 179 #[.pointer (some ⟨w.heap.size, 0, none⟩)] (fun y => !(emptyZ s (halfZ a y))) (enters_of Tryz.func179 (by kernel_rfl) rfl) (w.heap.size + 1) v _ W hV.lt hO (by
      intro b hb _ _ W2 y hy hk
      have hcell : ∀ o, W2.cell? ⟨w.heap.size, o, none⟩ = W.cell? ⟨w.heap.size, o, none⟩ := fun o => by
        have := hk.2 w.heap.size hV.lt (by omega) (by simp)
        unfold World.cell?; simp only [this]
      exact elephant_closure s hs a x ha y (hrg y hy) _ W2 ((hcell 0).trans hV.c0) ((hcell 1).trans hV.c1) ((hcell 2).trans hV.c2))
    rw [hfil] at hD
    exact hD)
  have HB := Aside0.mk (VwAt.new w s a x)
  have hu := Tryz.underlying152
  clear ha hx hs hrg
  go_enter Tryz.func165, Tryz.ntmps165
  go_wp2_with fail
  generalize w.alloc (.cells #[.string s, .int .i64 (a : Int), .int .u8 (x : Int)] 152) = W1 at *
  have HA := Aside0.mk HB.out.drew
  obtain ⟨c0, c1, c2, _⟩ := HB.out
  go_region_held3 (fun W => W.cell? ⟨w.heap.size, 0, none⟩ = some (.string s) ∧ W.cell? ⟨w.heap.size, 1, none⟩ = some (.int .i64 (a : Int)) ∧ W.cell? ⟨w.heap.size, 2, none⟩ = some (.int .u8 (x : Int))) (go_keep)
    (first
      | (go_at_call 178; (with_reducible refine (HF1.out _).mono ?_); rintro e w2 ⟨v1, rfl, h1, hb⟩; have HV1 := Aside0.mk (h1.lower (show w.heap.size + 1 ≤ _ from HA.out.lt)); have HA2 := Aside0.mk (HA.out.below hb); clear HA h1 hb c0 c1 c2; obtain ⟨c0, c1, c2, _⟩ := HA2.out)
      | (go_at_call 177; refine (HAL.out _ _ HA2.out.lt HV1.out).mono ?_; rintro e w5 ⟨v5, rfl, h1, hb⟩; have HA5 := Aside0.mk (HA2.out.keep (by omega) hb); have HV5 := Aside0.mk h1; clear h1 hb HA2 c0 c1 c2; obtain ⟨c0, c1, c2, _⟩ := HA5.out)
      | (go_at_call 136; refine (HD.out _ _ HA5.out HV5.out).mono ?_; rintro e w6 ⟨v6, rfl, h1, hb⟩; have HA6 := Aside0.mk (HA5.out.keep (by omega) hb); have HV6 := Aside0.mk h1; clear h1 hb HA5 c0 c1 c2; obtain ⟨c0, c1, c2, _⟩ := HA6.out))
  all_goals
    go_wp2_with fail
    go_ret
    exact ⟨_, rfl, HV6.out.lower (by omega), HA6.out.bel⟩
/-! ### the pawn -/
set_option maxRecDepth 100000 in
set_option maxHeartbeats 4000000 in
theorem vpawn_c (s : ByteArray) (a x : Nat) (ha : a < 90) (hx : x < 256) (h0 : 0 ≤ sideN x) (w : World) : Calls Tryz.prog 169 #[vwV s a x] w fun e w' => ∃ v, e = .returned v ∧ OwnZ w' w.heap.size v (pawnL (sideN x) a) ∧ Below w.heap.size w w' := by
  have HS := Aside0.mk (fun (f r : Int) (h1 : -60 ≤ f ∧ f ≤ 60) (h2 : -60 ≤ r ∧ r ≤ 60) (W : World) => step_c s a x ha f r h1 h2 W)
  have HSD := Aside0.mk (fun W => side_c x hx W)
  have HOV := Aside0.mk (fun W => Over_c (a : Int) (sideN x) W)
  have hov : overS (a : Int) (sideN x) = overN a (sideN x) := by
    unfold overS
    rw [decide_eq_true ⟨by omega, by omega, side01 h0⟩, Bool.true_and]; rfl
  rw [hov] at HOV
  have hs1 : sideN x = 0 ∨ sideN x = 1 := side01 h0
  unfold pawnL
  generalize sideN x = sd at *
  have s0 : 0 ≤ sd := h0
  have s1 : sd ≤ 1 := by omega
  obtain ⟨i0, hi0, hx0⟩ := Option.map_eq_some_iff.1 info_intZ
  simp only [Prod.mk.injEq] at hx0
  have HZ := Aside0.mk (⟨hi0, hx0⟩ : _ ∧ _)
  have HB := Aside0.mk (VwAt.new w s a x)
  have hu := Tryz.underlying152
  clear hx0 hi0 ha hx hov hs1 h0
  have HW := Aside0.mk (And.intro s0 s1)
  generalize hz0 : stepN a 0 (1 - 2 * sd) = z0 at *
  have HZ0 := Aside0.mk hz0
  clear hz0
  cases ho : overN a sd
  all_goals
    rw [ho] at HOV
    go_enter Tryz.func169, Tryz.ntmps169
    go_wp2_with (first | (go_at_call 105; refine (HSD.out _).mono ?_; rintro e w2 ⟨rfl, rfl⟩) | fail)
    refine (HS.out _ _ (by omega) (by omega) _).mono ?_
    rintro e w2 ⟨rfl, hb⟩
    have HA2 := Aside0.mk (HB.out.below hb)
    clear hb HB
    obtain ⟨c0, c1, c2, _⟩ := HA2.out
    rw [HZ0.out]
    have hlw : w.heap.size < w2.heap.size := HA2.out.lt
    go_wp2_with fail
    refine (HOV.out _).mono ?_
    rintro e w3 ⟨rfl, hb⟩
    have HV3 := Aside0.mk ((own_znew w2 (w.heap.size + 1) [z0] HA2.out.lt (by simp [maxLen])).below hb)
    have HA3 := Aside0.mk ((HA2.out.below (below_alloc (Below.refl _ _) _)).below hb)
    clear hb HA2 c0 c1 c2 hlw
    obtain ⟨c0, c1, c2, _⟩ := HA3.out
    generalize w2.heap.size = bg at *
  · go_wp2_with fail
    go_ret
    exact ⟨_, rfl, HV3.out.lower (by omega), HA3.out.bel⟩
  · go_wp2_with fail
    have HA := Aside0.mk HA3.out.drew
    have HV := Aside0.mk (HV3.out.below (pw_below_drewN (Below.refl _ _) 1) : OwnZ w3.drew _ _ _)
    clear HA3 HV3
    go_region_held3 (fun W => W.cell? ⟨w.heap.size, 0, none⟩ = some (.string s) ∧ W.cell? ⟨w.heap.size, 1, none⟩ = some (.int .i64 (a : Int)) ∧ W.cell? ⟨w.heap.size, 2, none⟩ = some (.int .u8 (x : Int))) (go_keep)
      (first
        | (go_at_call 181; refine (HS.out _ _ (by omega) (by omega) _).mono ?_; rintro e w5 ⟨rfl, hb⟩; have HAn := Aside0.mk (HA.out.below hb); have HVn := Aside0.mk (HV.out.below hb); clear HA HV hb c0 c1 c2; have HA := HAn; have HV := HVn; clear HAn HVn; obtain ⟨c0, c1, c2, _⟩ := HA.out)
        | (refine step_append_lies _ (by rfl) _ _ _ (by rfl) (w.heap.size + 1) 3 i0 _ 1 8 Tryz.underlying94 HZ.out.1 HZ.out.2.1 HZ.out.2.2.1 HZ.out.2.2.2 rfl (by omega) _ 1 (nums .i64 [z0]) (by rfl) (HV.out.below (below_alloc (Below.refl _ _) _)) ⟨_, 0, none⟩ 2 2 (nums .i64 [stepN a 1 0, stepN a (-1) 0]) (by rfl) (by rfl) (World.news_of_block (cs := #[.int .i64 (stepN a 1 0), .int .i64 (stepN a (-1) 0)]) (t := 3) (fr := (0, 0)) (heap_alloc_new _ _)) (fun u hu => by obtain ⟨z, _, rfl⟩ := List.mem_map.1 hu; rfl) (by omega) (by unfold maxLen; omega) (by omega) (by have := HA.out.lt; simp; omega) _ rfl ?_; intro gg cap1 w7 hown1 hgrow hat hlt; have HB7 := (Below.refl (w.heap.size + 1) _).grown hgrow (by have := HA.out.lt; simp; omega) (fun k hk => (HV.out.lt k hk).1); have HA7 := Aside0.mk ((HA.out.below (below_alloc (Below.refl _ _) _)).keep (by omega) HB7); have HV7 : Aside0 (OwnZ w7 (w.heap.size + 1) (.slice (some ⟨gg, 0, none⟩) 3 cap1) [z0, stepN a 1 0, stepN a (-1) 0]) := ⟨hown1⟩; clear HA HV HB7 hown1 hgrow hat hlt c0 c1 c2; obtain ⟨c0, c1, c2, _⟩ := HA7.out))
    all_goals
      go_wp2_with fail
      go_ret
      exact ⟨_, rfl, HV7.out.lower (by omega), HA7.out.bel⟩
end Go.Proofs.YtafmapadkpjliaaGreatDoor.K
