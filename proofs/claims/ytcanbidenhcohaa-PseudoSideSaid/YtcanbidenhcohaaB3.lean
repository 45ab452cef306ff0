/- Walks and plain laws that several statements lean on, joined: no statement of the seat is proved here. -/
import Derived.Test.YtcanbidenhcohaaBW
import Derived.Lib.Hide
import Derived.Lib.SliceRun
import Derived.Shelf.Abstract
import Derived.Deep.RegionHeld3
import Derived.Deep.AppendLies
import Derived.Deep.LoopGhost
import Derived.WalkKit
import Derived.Handy
import Derived.Deep.Cut
import Derived.ProofKit
import Derived.Deep.Slices
import Derived.WideShapes
import Derived.ChangeArms
import Derived.DataReads
import Derived.Test.YtcanbidenhcohaaB2
import Derived.Test.YtcanbidenhcohaaB1

/- Plain law: what the ways of all pieces gather, and that All of it is the document's. -/
namespace Go.Proofs.Ytcanbidenhcohaa.K
open Go.RowKit Go.Lib Go.Proofs.Ytcanbidenhcohaa.Sp
set_option linter.unusedVariables false
set_option linter.unusedSimpArgs false
/-- Whether a piece may stand on what may be a square; whether nothing stands there. -/
def mayZ (x : Nat) (y : Int) : Bool := decide (0 ≤ y ∧ y < 90) && mayN x y.toNat
def emptyZ (s : ByteArray) (y : Int) : Bool := decide (0 ≤ y ∧ y < 90) && (cel s y.toNat == 46)
def horseAdd (s : ByteArray) (n : Nat) (w : Int × Int) : List Int := if emptyZ s (stepN n w.1 w.2) = true then horseL n w else []
def em (s : ByteArray) (x : Nat) : Bool := cel s x == 46
def hd (l : List Nat) : Int := match l.head? with | some x => (x : Int) | none => -1
def ints (l : List Nat) : List Int := l.map (fun n : Nat => (n : Int))
/-- The free squares of a way, the first piece, the second one. -/
def freeL (s : ByteArray) (n : Nat) (w : Int × Int) : List Nat := (rayN n w).takeWhile (em s)
def firstZ (s : ByteArray) (n : Nat) (w : Int × Int) : Int := hd ((rayN n w).dropWhile (em s))
def secondZ (s : ByteArray) (n : Nat) (w : Int × Int) : Int := hd (((rayN n w).dropWhile (em s)).tail.dropWhile (em s))
def lineAdd (s : ByteArray) (n : Nat) (b : Bool) (w : Int × Int) : List Int := ints (freeL s n w) ++ [if b = true then secondZ s n w else firstZ s n w]
def halfZ (a : Nat) (y : Int) : Int := Int.tdiv ((a : Int) + y) 2
def wayZ (s : ByteArray) (a : Nat) : List Int :=
  if kindN (cel s a) = 75 then (kingL a).filter (mayZ (cel s a))
  else if kindN (cel s a) = 65 then (fourL a 1).filter (mayZ (cel s a))
  else if kindN (cel s a) = 66 then ((fourL a 2).filter (mayZ (cel s a))).filter (fun y => emptyZ s (halfZ a y))
  else if kindN (cel s a) = 78 then dirs.flatMap (horseAdd s a)
  else if kindN (cel s a) = 82 then dirs.flatMap (lineAdd s a false)
  else if kindN (cel s a) = 67 then dirs.flatMap (lineAdd s a true)
  else if kindN (cel s a) = 80 then pawnL (sideN (cel s a)) a
  else []
/-- What a way's list owes. -/
def WayOk (c : Nat → Nat) (n : Nat) (l : List Int) : Prop := (∀ t : Nat, t < 90 → ((t : Int) ∈ l ↔ canN c n t = true)) ∧ (∀ y ∈ l, -1 ≤ y ∧ y < 90) ∧ l.length ≤ 1000
theorem mem_may (x : Nat) (l : List Int) (t : Nat) (ht : t < 90) : (t : Int) ∈ l.filter (mayZ x) ↔ (t : Int) ∈ l ∧ mayN x t = true := by
  rw [List.mem_filter]; unfold mayZ
  have : (0 : Int) ≤ (t : Int) ∧ (t : Int) < 90 := by omega
  simp [this]
theorem range_may (x : Nat) (l : List Int) : ∀ y ∈ l.filter (mayZ x), 0 ≤ y ∧ y < 90 := by
  intro y hy
  have := (List.mem_filter.1 hy).2
  unfold mayZ at this
  simp only [Bool.and_eq_true, decide_eq_true_eq] at this
  exact this.1
theorem king_ok (s : ByteArray) (n : Nat) (hn : n < 90) (hk : kindN (cel s n) = 75) : WayOk (cel s) n ((kingL n).filter (mayZ (cel s n))) := by
  refine ⟨fun t ht => ?_, fun y hy => by have := range_may _ _ y hy; omega, Nat.le_trans (List.length_filter_le _ _) (by simp [kingL])⟩
  rw [mem_may _ _ _ ht]
  unfold canN
  rw [if_pos hk]
  have := king_geo ⟨n, hn⟩ ⟨t, ht⟩
  simp only at this
  simp only [Bool.and_eq_true, beq_iff_eq]
  rw [this]
theorem advisor_ok (s : ByteArray) (n : Nat) (hn : n < 90) (hk : kindN (cel s n) = 65) : WayOk (cel s) n ((fourL n 1).filter (mayZ (cel s n))) := by
  refine ⟨fun t ht => ?_, fun y hy => by have := range_may _ _ y hy; omega, Nat.le_trans (List.length_filter_le _ _) (by simp [fourL])⟩
  rw [mem_may _ _ _ ht]
  unfold canN
  rw [if_neg (by omega), if_pos hk]
  have := adv_geo ⟨n, hn⟩ ⟨t, ht⟩
  simp only at this
  simp only [Bool.and_eq_true, beq_iff_eq]
  rw [this]
theorem half_at (n t : Nat) : halfZ n (t : Int) = (((n + t) / 2 : Nat) : Int) := by
  unfold halfZ
  rw [Int.tdiv_eq_ediv_of_nonneg (by omega)]; omega
theorem elephant_ok (s : ByteArray) (n : Nat) (hn : n < 90) (hk : kindN (cel s n) = 66) : WayOk (cel s) n (((fourL n 2).filter (mayZ (cel s n))).filter (fun y => emptyZ s (halfZ n y))) := by
  refine ⟨fun t ht => ?_, fun y hy => by have := range_may _ _ y (List.mem_filter.1 hy).1; omega, Nat.le_trans (List.length_filter_le _ _) (Nat.le_trans (List.length_filter_le _ _) (by simp [fourL]))⟩
  rw [List.mem_filter, mem_may _ _ _ ht, half_at]
  unfold canN emptyZ
  rw [if_neg (by omega), if_neg (by omega), if_pos hk]
  have := ele_geo ⟨n, hn⟩ ⟨t, ht⟩
  simp only at this
  rw [this]
  have hd : (0 : Int) ≤ (((n + t) / 2 : Nat) : Int) ∧ (((n + t) / 2 : Nat) : Int) < 90 := by omega
  simp only [Bool.and_eq_true, beq_iff_eq, decide_eq_true_eq, Int.toNat_natCast]
  constructor
  · rintro ⟨⟨⟨a, b⟩, c⟩, d, e⟩; exact ⟨⟨⟨a, b⟩, c⟩, e⟩
  · rintro ⟨⟨⟨a, b⟩, c⟩, e⟩; exact ⟨⟨⟨a, b⟩, c⟩, hd, e⟩
theorem horse_ok (s : ByteArray) (n : Nat) (hn : n < 90) (hk : kindN (cel s n) = 78) : WayOk (cel s) n (dirs.flatMap (horseAdd s n)) := by
  refine ⟨fun t ht => ?_, fun y hy => ?_, ?_⟩
  · unfold canN
    rw [if_neg (by omega), if_neg (by omega), if_neg (by omega), if_pos hk]
    have hg := horse_geo ⟨n, hn⟩ ⟨t, ht⟩
    simp only at hg
    rw [List.mem_flatMap]
    unfold horseN
    rw [show ((away (n % 9) (t % 9) == 1 && away (n / 9) (t / 9) == 2) || (away (n % 9) (t % 9) == 2 && away (n / 9) (t / 9) == 1)) = horseP n t from rfl, Bool.and_eq_true, beq_iff_eq]
    constructor
    · rintro ⟨w, hw, hm⟩
      unfold horseAdd at hm
      split at hm
      · rename_i hc
        obtain ⟨h1, h2⟩ := hg.1 w hw hm
        refine ⟨h1, ?_⟩
        unfold emptyZ at hc
        simp only [Bool.and_eq_true, beq_iff_eq] at hc
        rw [h2] at hc
        simpa using hc.2
      · cases hm
    · rintro ⟨h1, h2⟩
      obtain ⟨w, hw, hm⟩ := hg.2 h1
      obtain ⟨_, h3⟩ := hg.1 w hw hm
      have hr := horse_range ⟨n, hn⟩ w hw
      refine ⟨w, hw, ?_⟩
      unfold horseAdd emptyZ
      rw [if_pos]
      · exact hm
      · have := hr.2.2
        simp only at this
        rw [h3] at this ⊢
        simp [h2]; omega
  · obtain ⟨w, hw, hm⟩ := List.mem_flatMap.1 hy
    unfold horseAdd at hm
    split at hm
    · exact (horse_range ⟨n, hn⟩ w hw).1 y hm
    · cases hm
  · have h2 : ∀ w, (horseAdd s n w).length ≤ 2 := fun w => by unfold horseAdd; split <;> simp [horseL]
    have a := h2 (1, 0); have b := h2 (-1, 0); have c := h2 (0, 1); have d := h2 (0, -1)
    simp only [dirs, List.flatMap_cons, List.flatMap_nil, List.length_append, List.length_nil]
    omega
theorem hd_eq (l : List Nat) (t : Nat) : hd l = (t : Int) ↔ l.head? = some t := by
  unfold hd
  cases l.head? with
  | none => simp
  | some x => simp; omega
theorem free_len (s : ByteArray) (n : Nat) (hn : n < 90) (w : Int × Int) (hw : w ∈ dirs) : (freeL s n w).length ≤ 9 := by
  have hlen : (rayN n w).length ≤ 9 := (ray_geo ⟨n, hn⟩ w hw).2.1
  exact Nat.le_trans (List.takeWhile_sublist (em s) (l := rayN n w)).length_le hlen
theorem lineAdd_len (s : ByteArray) (n : Nat) (hn : n < 90) (b : Bool) (w : Int × Int) (hw : w ∈ dirs) : (lineAdd s n b w).length ≤ 10 := by
  have := free_len s n hn w hw
  simp [lineAdd, ints]; omega
theorem mem_lineAdd (s : ByteArray) (n : Nat) (b : Bool) (w : Int × Int) (t : Nat) : (t : Int) ∈ lineAdd s n b w ↔ t ∈ (rayN n w).takeWhile (em s) ∨ (if b = true then (((rayN n w).dropWhile (em s)).tail.dropWhile (em s)).head? = some t else ((rayN n w).dropWhile (em s)).head? = some t) := by
  unfold lineAdd ints freeL firstZ secondZ
  rw [List.mem_append, List.mem_map, List.mem_singleton]
  have e : (∃ a ∈ (rayN n w).takeWhile (em s), ((a : Nat) : Int) = (t : Int)) ↔ t ∈ (rayN n w).takeWhile (em s) := by
    constructor
    · rintro ⟨a, h1, h2⟩
      have : a = t := by omega
      exact this ▸ h1
    · intro h; exact ⟨t, h, rfl⟩
  rw [e]
  cases b with
  | true => rw [if_pos rfl, if_pos rfl, eq_comm, hd_eq]
  | false => rw [if_neg (by simp), if_neg (by simp), eq_comm, hd_eq]
theorem ray_lt (n : Nat) (hn : n < 90) (w : Int × Int) (hw : w ∈ dirs) : ∀ t ∈ rayN n w, t < 90 := by
  obtain ⟨g1, g2, g3⟩ := ray_geo ⟨n, hn⟩ w hw
  intro t ht
  obtain ⟨j, hj, rfl⟩ := List.getElem_of_mem ht
  simp only at g2
  exact (g3 ⟨j, by omega⟩ _ (by simp only; rw [List.getElem?_eq_getElem hj]; rfl)).2
theorem lineAdd_range (s : ByteArray) (n : Nat) (hn : n < 90) (b : Bool) (w : Int × Int) (hw : w ∈ dirs) : ∀ y ∈ lineAdd s n b w, -1 ≤ y ∧ y < 90 := by
  have hall := ray_lt n hn w hw
  have hhd : ∀ l : List Nat, (∀ t ∈ l, t < 90) → -1 ≤ hd l ∧ hd l < 90 := by
    intro l hl
    unfold hd
    cases l with
    | nil => simp
    | cons x l => have := hl x List.mem_cons_self; simp; omega
  have hsub : ∀ t ∈ (rayN n w).dropWhile (em s), t < 90 := fun t ht => hall t ((List.dropWhile_sublist _).mem ht)
  have hsub2 : ∀ t ∈ (((rayN n w).dropWhile (em s)).tail.dropWhile (em s)), t < 90 := fun t ht => hsub t (List.mem_of_mem_tail ((List.dropWhile_sublist _).mem ht))
  intro y hy
  unfold lineAdd ints freeL firstZ secondZ at hy
  rw [List.mem_append, List.mem_map, List.mem_singleton] at hy
  rcases hy with ⟨t, ht, rfl⟩ | rfl
  · have := hall t ((List.takeWhile_sublist _).mem ht); omega
  · split
    · exact hhd _ hsub2
    · exact hhd _ hsub
theorem betw_count (s : ByteArray) (n t : Nat) (hn : n < 90) (ht : t < 90) (v : Nat) : betwN (cel s) n t = (v : Int) ↔ ∃ w ∈ dirs, ∃ j, (rayN n w)[j]? = some t ∧ ((rayN n w).take j).countP (fun x => !em s x) = v := by
  have hcnt : ∀ l l' : List Nat, (l = l' ∨ l = l'.reverse) → l.countP (fun i => cel s i != 46) = l'.countP (fun x => !em s x) := by
    intro l l' h
    have e : (fun i => cel s i != 46) = (fun x => !em s x) := by funext x; simp [em, bne]
    rw [e]
    rcases h with rfl | rfl
    · rfl
    · exact (List.reverse_perm l').countP_eq _
  unfold betwN
  constructor
  · intro h
    by_cases h1 : n = t
    · rw [if_pos h1] at h; omega
    rw [if_neg h1] at h
    by_cases h2 : n / 9 = t / 9 ∨ n % 9 = t % 9
    · rw [if_pos h2] at h
      obtain ⟨w, hw, j, hj, hl⟩ := betw_ray ⟨n, hn⟩ ⟨t, ht⟩ ⟨h1, h2⟩
      refine ⟨w, hw, j.1, hj, ?_⟩
      rw [← hcnt _ _ hl]
      simp only; omega
    · rw [if_neg h2] at h; omega
  · rintro ⟨w, hw, j, hj, hc⟩
    have hlen : (rayN n w).length ≤ 9 := (ray_geo ⟨n, hn⟩ w hw).2.1
    have hj9 : j < 9 := by have := (List.getElem?_eq_some_iff.1 hj).1; omega
    obtain ⟨h1, h2, hl⟩ : n ≠ t ∧ (n / 9 = t / 9 ∨ n % 9 = t % 9) ∧ (betwL n t = (rayN n w).take j ∨ betwL n t = ((rayN n w).take j).reverse) := ray_betw ⟨n, hn⟩ w hw ⟨j, hj9⟩ t (by simp only; rw [hj]; rfl)
    rw [if_neg h1, if_pos h2, hcnt _ _ hl]
    omega
theorem em_true (s : ByteArray) (t : Nat) : em s t = true ↔ cel s t = 46 := by simp [em]
theorem em_false (s : ByteArray) (t : Nat) : em s t = false ↔ ¬ cel s t = 46 := by simp [em]
theorem lines_len (s : ByteArray) (n : Nat) (hn : n < 90) (b : Bool) : (dirs.flatMap (lineAdd s n b)).length ≤ 40 := by
  have h2 := fun w hw => lineAdd_len s n hn b w hw
  have a := h2 (1, 0) (by decide); have b := h2 (-1, 0) (by decide); have c := h2 (0, 1) (by decide); have d := h2 (0, -1) (by decide)
  simp only [dirs, List.flatMap_cons, List.flatMap_nil, List.length_append, List.length_nil]
  omega
theorem chariot_ok (s : ByteArray) (n : Nat) (hn : n < 90) (hk : kindN (cel s n) = 82) : WayOk (cel s) n (dirs.flatMap (lineAdd s n false)) := by
  refine ⟨fun t ht => ?_, fun y hy => ?_, Nat.le_trans (lines_len s n hn false) (by omega)⟩
  · rw [List.mem_flatMap]
    unfold canN
    rw [if_neg (by omega), if_neg (by omega), if_neg (by omega), if_neg (by omega), if_pos hk, beq_iff_eq]
    rw [show (betwN (cel s) n t = 0) = (betwN (cel s) n t = ((0 : Nat) : Int)) from rfl, betw_count s n t hn ht]
    constructor
    · rintro ⟨w, hw, hm⟩
      rw [mem_lineAdd, if_neg (by simp), mem_free, mem_first] at hm
      rcases hm with ⟨j, a, b, _⟩ | ⟨j, a, b, _⟩ <;> exact ⟨w, hw, j, a, b⟩
    · rintro ⟨w, hw, j, a, b⟩
      refine ⟨w, hw, ?_⟩
      rw [mem_lineAdd, if_neg (by simp), mem_free, mem_first]
      cases he : em s t with
      | true => exact .inl ⟨j, a, b, rfl⟩
      | false => exact .inr ⟨j, a, b, rfl⟩
  · obtain ⟨w, hw, hm⟩ := List.mem_flatMap.1 hy
    exact lineAdd_range s n hn false w hw y hm
theorem cannon_ok (s : ByteArray) (n : Nat) (hn : n < 90) (hk : kindN (cel s n) = 67) : WayOk (cel s) n (dirs.flatMap (lineAdd s n true)) := by
  refine ⟨fun t ht => ?_, fun y hy => ?_, Nat.le_trans (lines_len s n hn true) (by omega)⟩
  · rw [List.mem_flatMap]
    unfold canN
    rw [if_neg (by omega), if_neg (by omega), if_neg (by omega), if_neg (by omega), if_neg (by omega), if_pos hk, Bool.or_eq_true, Bool.and_eq_true, Bool.and_eq_true, beq_iff_eq, beq_iff_eq, beq_iff_eq, bne_iff_ne]
    rw [show (betwN (cel s) n t = 0) = (betwN (cel s) n t = ((0 : Nat) : Int)) from rfl, show (betwN (cel s) n t = 1) = (betwN (cel s) n t = ((1 : Nat) : Int)) from rfl, betw_count s n t hn ht, betw_count s n t hn ht]
    constructor
    · rintro ⟨w, hw, hm⟩
      rw [mem_lineAdd, if_pos rfl, mem_free, mem_second] at hm
      rcases hm with ⟨j, a, b, c⟩ | ⟨j, a, b, c⟩
      · exact .inl ⟨⟨w, hw, j, a, b⟩, (em_true s t).1 c⟩
      · exact .inr ⟨⟨w, hw, j, a, b⟩, (em_false s t).1 c⟩
    · rintro (⟨⟨w, hw, j, a, b⟩, c⟩ | ⟨⟨w, hw, j, a, b⟩, c⟩)
      · refine ⟨w, hw, ?_⟩
        rw [mem_lineAdd, if_pos rfl, mem_free, mem_second]
        exact .inl ⟨j, a, b, (em_true s t).2 c⟩
      · refine ⟨w, hw, ?_⟩
        rw [mem_lineAdd, if_pos rfl, mem_free, mem_second]
        exact .inr ⟨j, a, b, (em_false s t).2 c⟩
  · obtain ⟨w, hw, hm⟩ := List.mem_flatMap.1 hy
    exact lineAdd_range s n hn true w hw y hm
theorem pawn_ok (s : ByteArray) (n : Nat) (hn : n < 90) (hk : kindN (cel s n) = 80) : WayOk (cel s) n (pawnL (sideN (cel s n)) n) := by
  have hside : sideN (cel s n) = 0 ∨ sideN (cel s n) = 1 := by
    unfold kindN at hk
    unfold sideN
    split
    · exact .inl rfl
    · rename_i h1
      rw [if_neg h1] at hk
      split
      · exact .inr rfl
      · rename_i h2
        rw [if_neg h2] at hk
        omega
  obtain ⟨b, hb⟩ : ∃ b : Fin 2, sideN (cel s n) = ((b.1 : Nat) : Int) := by
    rcases hside with h | h
    · exact ⟨0, h⟩
    · exact ⟨1, h⟩
  have hg := pawn_geo b ⟨n, hn⟩
  have hrg := pawn_range b ⟨n, hn⟩
  rw [← hb] at hg hrg
  simp only at hg hrg
  refine ⟨fun t ht => ?_, hrg, ?_⟩
  · unfold canN
    rw [if_neg (by omega), if_neg (by omega), if_neg (by omega), if_neg (by omega), if_neg (by omega), if_neg (by omega)]
    exact hg ⟨t, ht⟩
  · unfold pawnL; split <;> simp
theorem kinds7 (x : Nat) (hx : x < 256) (h : 0 ≤ sideN x) : kindN x = 75 ∨ kindN x = 65 ∨ kindN x = 66 ∨ kindN x = 78 ∨ kindN x = 82 ∨ kindN x = 67 ∨ kindN x = 80 := by
  have : ∀ x : Fin 256, 0 ≤ sideN x.1 → kindN x.1 = 75 ∨ kindN x.1 = 65 ∨ kindN x.1 = 66 ∨ kindN x.1 = 78 ∨ kindN x.1 = 82 ∨ kindN x.1 = 67 ∨ kindN x.1 = 80 := by decide +kernel
  exact this ⟨x, hx⟩ h
theorem kind_none (x : Nat) (hx : x < 256) (h : sideN x < 0) : kindN x = 0 := by
  have : ∀ x : Fin 256, sideN x.1 < 0 → kindN x.1 = 0 := by decide +kernel
  exact this ⟨x, hx⟩ h
theorem way_ok (s : ByteArray) (n : Nat) (hn : n < 90) (h0 : 0 ≤ sideN (cel s n)) : WayOk (cel s) n (wayZ s n) := by
  unfold wayZ
  rcases kinds7 _ (cel_lt s n) h0 with h | h | h | h | h | h | h
  · rw [if_pos h]; exact king_ok s n hn h
  · rw [if_neg (by omega), if_pos h]; exact advisor_ok s n hn h
  · rw [if_neg (by omega), if_neg (by omega), if_pos h]; exact elephant_ok s n hn h
  · rw [if_neg (by omega), if_neg (by omega), if_neg (by omega), if_pos h]; exact horse_ok s n hn h
  · rw [if_neg (by omega), if_neg (by omega), if_neg (by omega), if_neg (by omega), if_pos h]; exact chariot_ok s n hn h
  · rw [if_neg (by omega), if_neg (by omega), if_neg (by omega), if_neg (by omega), if_neg (by omega), if_pos h]; exact cannon_ok s n hn h
  · rw [if_neg (by omega), if_neg (by omega), if_neg (by omega), if_neg (by omega), if_neg (by omega), if_neg (by omega), if_pos h]; exact pawn_ok s n hn h
theorem way_none (s : ByteArray) (n : Nat) (h0 : sideN (cel s n) < 0) : wayZ s n = [] := by
  have h := kind_none _ (cel_lt s n) h0
  unfold wayZ
  rw [if_neg (by omega), if_neg (by omega), if_neg (by omega), if_neg (by omega), if_neg (by omega), if_neg (by omega), if_neg (by omega)]
/-- What All's closure throws away. -/
def badZ (s : ByteArray) (pc : Nat) (y : Int) : Bool := !decide (0 ≤ y ∧ y < 90) || (sideN (cel s y.toNat) == sideN pc)
theorem all_sorted (s : ByteArray) (a : Nat) (ha : a < 90) : Lib.compact (((wayZ s a).filter (fun y => !badZ s (cel s a) y)).mergeSort fun x y => decide (x ≤ y)) = ints (allN (cel s) a) := by
  by_cases h0 : 0 ≤ sideN (cel s a)
  · obtain ⟨h1, h2, _⟩ := way_ok s a ha h0
    unfold allN ints
    apply sort_compact
    · intro y hy
      have := (List.mem_filter.1 hy).2
      unfold badZ at this
      simp only [Bool.not_or, Bool.not_not, Bool.and_eq_true, decide_eq_true_eq] at this
      exact this.1
    · intro t ht
      rw [List.mem_filter, h1 t ht]
      unfold badZ fastN
      have hd : (0 : Int) ≤ (t : Int) ∧ (t : Int) < 90 := by omega
      simp [hd, h0]
      constructor
      · rintro ⟨x1, x2⟩; exact ⟨x2, x1⟩
      · rintro ⟨x1, x2⟩; exact ⟨x2, x1⟩
  · rw [way_none s a (by omega)]
    have hnil : allN (cel s) a = [] := by
      unfold allN
      rw [List.filter_eq_nil_iff]
      intro t _
      simp [fastN, h0]
    rw [hnil, List.filter_nil, List.mergeSort_nil]
    rfl
end Go.Proofs.Ytcanbidenhcohaa.K

/- Plain law: deleting from a list in place. -/
namespace Go.Proofs.Ytcanbidenhcohaa.Sp
/-- The row after j elements were looked at, i of them kept. -/
structure DelInv {α : Type} (p : α → Bool) (xs cur : List α) (i j : Nat) : Prop where
  len : cur.length = xs.length
  lt : i < j
  le : j ≤ xs.length
  kept : cur.take i = (xs.take j).filter (fun x => !p x)
  rest : cur.drop j = xs.drop j

theorem DelInv.get {α : Type} {p : α → Bool} {xs cur : List α} {i j : Nat} (h : DelInv p xs cur i j) (d : α) : cur.getD j d = xs.getD j d := by
  have e : (cur.drop j)[0]? = (xs.drop j)[0]? := by rw [h.rest]
  rw [List.getElem?_drop, List.getElem?_drop] at e
  simpa [List.getD_eq_getElem?_getD] using congrArg (fun z => z.getD d) e

theorem take_one {α : Type} (xs : List α) (j : Nat) (h : j < xs.length) (d : α) : xs.take (j + 1) = xs.take j ++ [xs.getD j d] := by
  rw [List.take_succ_eq_append_getElem h, List.getD_eq_getElem?_getD, List.getElem?_eq_getElem h]
  rfl

theorem DelInv.keep {α : Type} {p : α → Bool} {xs cur : List α} {i j : Nat} (h : DelInv p xs cur i j) (hj : j < xs.length) (d : α) (hp : p (xs.getD j d) = false) : DelInv p xs (cur.set i (xs.getD j d)) (i + 1) (j + 1) where
  len := by rw [List.length_set, h.len]
  lt := by have := h.lt; omega
  le := by omega
  kept := by
    have hi : i < cur.length := by have := h.lt; have := h.len; omega
    rw [take_one xs j hj d, List.filter_append, ← h.kept, take_one _ i (by rw [List.length_set]; exact hi) d, List.take_set_of_le (Nat.le_refl i)]
    have e : (cur.set i (xs.getD j d)).getD i d = xs.getD j d := by rw [List.getD_eq_getElem?_getD, List.getElem?_set_self hi]; rfl
    rw [e]
    generalize xs.getD j d = y at hp ⊢
    simp [hp]
  rest := by
    have := h.lt
    rw [List.drop_set_of_lt (by omega), ← List.drop_drop, h.rest, List.drop_drop]

theorem DelInv.skip {α : Type} {p : α → Bool} {xs cur : List α} {i j : Nat} (h : DelInv p xs cur i j) (hj : j < xs.length) (d : α) (hp : p (xs.getD j d) = true) : DelInv p xs cur i (j + 1) where
  len := h.len
  lt := by have := h.lt; omega
  le := by omega
  kept := by
    rw [take_one xs j hj d, List.filter_append, ← h.kept]
    generalize xs.getD j d = y at hp ⊢
    simp [hp]
  rest := by rw [← List.drop_drop, h.rest, List.drop_drop]

theorem DelInv.start {α : Type} (p : α → Bool) (xs : List α) (k : Nat) (d : α) (hk : k < xs.length) (hp : p (xs.getD k d) = true) (hb : ∀ j, j < k → p (xs.getD j d) = false) : DelInv p xs xs k (k + 1) where
  len := rfl
  lt := by omega
  le := by omega
  kept := by
    rw [take_one xs k hk d, List.filter_append]
    have e : (xs.take k).filter (fun x => !p x) = xs.take k := by
      rw [List.filter_eq_self]
      intro x hx
      obtain ⟨i, hi, rfl⟩ := List.getElem_of_mem hx
      rw [List.length_take] at hi
      have := hb i (by omega)
      rw [List.getD_eq_getElem?_getD, List.getElem?_eq_getElem (by omega)] at this
      simpa using this
    rw [e]
    generalize xs.getD k d = y at hp ⊢
    simp [hp]
  rest := rfl

theorem DelInv.done {α : Type} {p : α → Bool} {xs cur : List α} {i : Nat} (h : DelInv p xs cur i xs.length) : cur.take i = xs.filter (fun x => !p x) := by
  have := h.kept
  rwa [List.take_of_length_le (Nat.le_refl _)] at this
theorem DelInv.count {α : Type} {p : α → Bool} {xs cur : List α} {i : Nat} (h : DelInv p xs cur i xs.length) : (xs.filter (fun x => !p x)).length = i := by
  rw [← h.done, List.length_take, h.len]
  have := h.lt
  omega

theorem first_hit {α : Type} (p : α → Bool) (d : α) : ∀ xs : List α, (∀ x ∈ xs, p x = false) ∨ ∃ k, k < xs.length ∧ p (xs.getD k d) = true ∧ ∀ j, j < k → p (xs.getD j d) = false
  | [] => .inl (by simp)
  | x :: xs => by
    cases hx : p x with
    | true => exact .inr ⟨0, by simp, by simpa using hx, by omega⟩
    | false =>
      rcases first_hit p d xs with h | ⟨k, hk, h1, h2⟩
      · exact .inl (by simpa [hx] using h)
      · refine .inr ⟨k + 1, by simpa using hk, by simpa using h1, ?_⟩
        intro j hj
        cases j with
        | zero => simpa using hx
        | succ j => simpa using h2 j (by omega)
end Go.Proofs.Ytcanbidenhcohaa.Sp

/- slices.IndexFunc and slices.DeleteFunc at []int, over a function value that may make memory. -/
namespace Go.Proofs.Ytcanbidenhcohaa.K
open Go.RowKit Go.Lib Go.Proofs.YtcanbidenhcohaaW.PrintWords Go.Proofs.YtcanbidenhcohaaW.PrintLast Go.Proofs.YtcanbidenhcohaaW.PrintMore
set_option linter.unusedVariables false
set_option linter.unusedSimpArgs false

/-- What a function value owes that is asked of a list's numbers: at each, in every later world but for the row b. -/
def GivesB (g : Nat) (lb : Array Value) (p : Int → Bool) (xs : List Int) (b : Nat) (w : World) : Prop :=
  ∀ (W : World) (x : Int), x ∈ xs → KeepBut w W b none → Calls Try.prog g (#[.int .i64 x] ++ lb) W fun e W' => e = .returned (.bool (p x)) ∧ Below W.heap.size W W'

theorem keep_then_below {w W W' : World} {b : Nat} (h : KeepBut w W b none) (k : Below W.heap.size W W') : KeepBut w W' b none := h.trans (KeepBut.of_below k b none) (.inl rfl)

set_option maxHeartbeats 1000000 in
/-- slices.IndexFunc: no element is so. -/
theorem idx_none (g : Nat) (lb : Array Value) (p : Int → Bool) (eg : ∀ args w, (callFunc g args).run Try.prog w = .ok (.enter g args) w) (base b cap : Nat) (xs : List Int) (w : World)
    (HO : w.ownsRow base 3 1 (.slice (some ⟨b, 0, none⟩) xs.length cap) xs.length (nums .i64 xs)) (hg : GivesB g lb p xs b w) (hlen : xs.length ≤ 9223372036854775807)
    (hn : ∀ x ∈ xs, p x = false) :
    Calls Try.prog 69 #[.slice (some ⟨b, 0, none⟩) xs.length cap, .func (.func g) #[] lb] w fun e w' => e = .returned (.int .i64 (-1)) ∧ Below w.heap.size w w' := by
  have HG := Aside0.mk hg
  have HN := Aside0.mk hn
  have HX := Aside0.mk HO
  clear hg hn HO
  go_enter Try.func69, Try.ntmps69
  go_wp2
  go_loopg [5, 8] xs.length (fun gg _ s8 wr => ∃ kk : Nat, kk ≤ xs.length ∧ xs.length - kk ≤ gg ∧ s8 = .int .i64 kk ∧ Below w.heap.size w wr)
  case atStart => exact ⟨0, Nat.zero_le _, by omega, rfl, Below.refl _ _⟩
  case round =>
    obtain ⟨kk, hkk, hgg, rfl, hB0⟩ := hrel
    have hB := Aside0.mk hB0
    clear hB0
    by_cases hlt : kk < xs.length
    · have hltz : (kk : Int) < (xs.length : Int) := by omega
      have ho := pw_own_below HX.out hB.out
      obtain ⟨hcell, _⟩ := own_at ho (kk : Int) (by omega) (by omega)
      rw [Int.toNat_natCast] at hcell
      clear ho
      have hm : rd xs (kk : Int) ∈ xs := by simp [rd, List.getD_eq_getElem?_getD, hlt]
      have hcall := HG.out wr (rd xs (kk : Int)) hm (KeepBut.of_below hB.out b none)
      rw [HN.out _ hm] at hcall
      generalize rd xs (kk : Int) = y at hcell hcall
      clear hm
      go_wp2_with (go_at_fn g; refine hcall.mono ?_; rintro e w' ⟨rfl, hb2⟩)
      go_roundg (xs.length - (kk + 1))
      case measure => omega
      case rel => exact ⟨kk + 1, by omega, by omega, by go_num, below_then hB.out hB.out.size hb2⟩
    · have hltz : ¬ (kk : Int) < (xs.length : Int) := by omega
      go_wp2
      go_ret
      exact ⟨rfl, hB.out⟩

set_option maxHeartbeats 1000000 in
/-- .. or one is, the first at k. -/
theorem idx_hit (g : Nat) (lb : Array Value) (p : Int → Bool) (eg : ∀ args w, (callFunc g args).run Try.prog w = .ok (.enter g args) w) (base b cap : Nat) (xs : List Int) (w : World)
    (HO : w.ownsRow base 3 1 (.slice (some ⟨b, 0, none⟩) xs.length cap) xs.length (nums .i64 xs)) (hg : GivesB g lb p xs b w) (hlen : xs.length ≤ 9223372036854775807)
    (k : Nat) (hk : k < xs.length) (hit : p (xs.getD k 0) = true) (hn : ∀ j, j < k → p (xs.getD j 0) = false) :
    Calls Try.prog 69 #[.slice (some ⟨b, 0, none⟩) xs.length cap, .func (.func g) #[] lb] w fun e w' => e = .returned (.int .i64 k) ∧ Below w.heap.size w w' := by
  have HG := Aside0.mk hg
  have HN := Aside0.mk hn
  have HX := Aside0.mk HO
  have HI := Aside0.mk hit
  clear hg hn HO hit
  go_enter Try.func69, Try.ntmps69
  go_wp2
  go_loopg [5, 8] xs.length (fun gg _ s8 wr => ∃ kk : Nat, kk ≤ k ∧ xs.length - kk ≤ gg ∧ s8 = .int .i64 kk ∧ Below w.heap.size w wr)
  case atStart => exact ⟨0, Nat.zero_le _, by omega, rfl, Below.refl _ _⟩
  case round =>
    obtain ⟨kk, hkk, hgg, rfl, hB0⟩ := hrel
    have hB := Aside0.mk hB0
    clear hB0
    have hltz : (kk : Int) < (xs.length : Int) := by omega
    have ho := pw_own_below HX.out hB.out
    obtain ⟨hcell, _⟩ := own_at ho (kk : Int) (by omega) (by omega)
    rw [Int.toNat_natCast] at hcell
    clear ho
    have hrd : rd xs (kk : Int) = xs.getD kk 0 := by simp [rd]
    have hm : xs.getD kk 0 ∈ xs := by simp [List.getD_eq_getElem?_getD, show kk < xs.length by omega]
    rw [hrd] at hcell
    clear hrd
    have hcall := HG.out wr (xs.getD kk 0) hm (KeepBut.of_below hB.out b none)
    clear hm
    by_cases hkz : kk = k
    · subst hkz
      rw [HI.out] at hcall
      generalize xs.getD kk 0 = y at hcell hcall
      go_wp2_with (go_at_fn g; refine hcall.mono ?_; rintro e w' ⟨rfl, hb2⟩)
      go_ret
      exact ⟨rfl, below_then hB.out hB.out.size hb2⟩
    · have hkl : kk + 1 ≤ k := by omega
      rw [HN.out kk (by omega)] at hcall
      generalize xs.getD kk 0 = y at hcell hcall
      clear hkz
      go_wp2_with (go_at_fn g; refine hcall.mono ?_; rintro e w' ⟨rfl, hb2⟩)
      go_roundg (xs.length - (kk + 1))
      case measure => omega
      case rel => exact ⟨kk + 1, by omega, by omega, by go_num, below_then hB.out hB.out.size hb2⟩

/-- Zeros behind a row's beginning leave the beginning. -/
theorem own_zeros (base b cap i : Nat) (xs : List Int) (hx : xs.length = i) : ∀ (zs : List Value) (o : Nat) (W : World), i ≤ o → W.ownsRow base 3 1 (.slice (some ⟨b, 0, none⟩) i cap) i (nums .i64 xs) →
    (∀ z ∈ zs, z = .int .i64 0) → (W.setCells b o zs).ownsRow base 3 1 (.slice (some ⟨b, 0, none⟩) i cap) i (nums .i64 xs) ∧ KeepBut W (W.setCells b o zs) b none ∧ ∀ (B0 : Nat) (w0 : World), B0 ≤ b → Below B0 w0 W → Below B0 w0 (W.setCells b o zs)
  | [], o, W, _, h, _ => ⟨h, KeepBut.refl _ _ _, fun _ _ _ h => h⟩
  | z :: zs, o, W, ho, h, hz => by
    obtain rfl := hz z List.mem_cons_self
    obtain ⟨h1, _⟩ := own_store h (o : Int) 0
    rw [Int.toNat_natCast, List.set_eq_of_length_le (by omega)] at h1
    obtain ⟨a, k, c⟩ := own_zeros base b cap i xs hx zs (o + 1) _ (by omega) h1 (fun z hz' => hz z (List.mem_cons_of_mem _ hz'))
    exact ⟨a, ((KeepBut.refl W b none).set_ o _).trans k (.inl rfl), fun B0 w0 hb hB => c B0 w0 hb (hB.setCell (p := ⟨b, o, none⟩) hb _)⟩

theorem own_take {W : World} {base b cap n : Nat} {xs : List Int} (h : W.ownsRow base 3 1 (.slice (some ⟨b, 0, none⟩) n cap) n (nums .i64 xs)) (i : Nat) (hi : i ≤ n) :
    W.ownsRow base 3 1 (.slice (some ⟨b, 0, none⟩) i cap) i (nums .i64 (xs.take i)) := by
  obtain ⟨hl, h⟩ := h
  have hxl : xs.length = n := by simpa [nums] using hl
  refine ⟨by simp [nums]; omega, ?_⟩
  rcases h with ⟨h, _⟩ | ⟨g, c, cur, h1, h2, h3, h4, h5, h6, h7⟩
  · cases h
  · injection h1 with a1 a2 a3
    injection a1 with a1
    injection a1 with a1
    subst a1 a3
    refine .inr ⟨b, cap, cur, rfl, h2, h3, by omega, h5, h6, ?_⟩
    rw [Nat.mul_one] at h7 ⊢
    have : (cur.toList.take n).take i = cur.toList.take i := by rw [List.take_take]; congr 1; omega
    rw [← this, h7]
    simp [nums, List.map_take]

set_option maxHeartbeats 2000000 in
/-- slices.DeleteFunc: what is left lies at the row's beginning. -/
theorem del_calls (g : Nat) (lb : Array Value) (p : Int → Bool) (eg : ∀ args w, (callFunc g args).run Try.prog w = .ok (.enter g args) w) (base b cap : Nat) (xs : List Int) (B0 : Nat) (w : World)
    (HO : w.ownsRow base 3 1 (.slice (some ⟨b, 0, none⟩) xs.length cap) xs.length (nums .i64 xs)) (hg : GivesB g lb p xs b w) (hlen : xs.length ≤ 9223372036854775807) (hcap : xs.length ≤ cap)
    (hb : B0 ≤ b) (hz : B0 ≤ w.heap.size) :
    Calls Try.prog 41 #[.slice (some ⟨b, 0, none⟩) xs.length cap, .func (.func g) #[] lb] w fun e w' => e = .returned (.slice (some ⟨b, 0, none⟩) (xs.filter fun x => !p x).length cap) ∧
      w'.ownsRow base 3 1 (.slice (some ⟨b, 0, none⟩) (xs.filter fun x => !p x).length cap) (xs.filter fun x => !p x).length (nums .i64 (xs.filter fun x => !p x)) ∧ KeepBut w w' b none ∧ Below B0 w w' := by
  have HB := Aside0.mk (Below.refl B0 w)
  have HZ0 := Aside0.mk hz
  have HX := Aside0.mk HO
  rcases Sp.first_hit p 0 xs with hn | ⟨k, hk, hit, hn⟩
  · have hI := idx_none g lb p eg base b cap xs w HO hg hlen hn
    have hf : (xs.filter fun x => !p x) = xs := by rw [List.filter_eq_self]; intro x hx; simp [hn x hx]
    rw [hf]
    clear hg hn HO hz hf
    go_enter Try.func41, Try.ntmps41
    go_wp2_with (go_at_call 69; refine hI.mono ?_; rintro e w1 ⟨rfl, hb1⟩)
    go_ret
    exact ⟨rfl, pw_own_below HX.out hb1, KeepBut.of_below hb1 b none, below_then HB.out (Nat.le_trans HZ0.out HB.out.size) hb1⟩
  · have hI := idx_hit g lb p eg base b cap xs w HO hg hlen k hk hit hn
    have hS := Aside0.mk (Sp.DelInv.start p xs k 0 hk hit hn)
    have HG := Aside0.mk hg
    have hk1 : ((k : Int) == -1) = false := beq_eq_false_iff_ne.2 (by omega)
    clear hg hn HO hz hit
    go_enter Try.func41, Try.ntmps41
    go_wp2_with (go_at_call 69; refine hI.mono ?_; rintro e w1 ⟨rfl, hb1⟩)
    go_loopg [5, 6, 7] xs.length (fun gg s5 s6 _ wr => ∃ (i j : Nat) (cur : List Int), s5 = .int .i64 i ∧ s6 = .int .i64 j ∧ xs.length - j ≤ gg ∧ Aside0 (Sp.DelInv p xs cur i j) ∧ Aside0 (wr.ownsRow base 3 1 (.slice (some ⟨b, 0, none⟩) xs.length cap) xs.length (nums .i64 cur)) ∧ Aside0 (KeepBut w wr b none) ∧ Aside0 (Below B0 w wr))
    case atStart => exact ⟨k, k + 1, xs, rfl, by go_num, by omega, hS, ⟨pw_own_below HX.out hb1⟩, ⟨KeepBut.of_below hb1 b none⟩, ⟨below_then HB.out (Nat.le_trans HZ0.out HB.out.size) hb1⟩⟩
    case round =>
      obtain ⟨i, j, cur, rfl, rfl, hgg, hD, hO, hK, hBw⟩ := hrel
      have hij := hD.out.lt
      have hjl := hD.out.le
      have hcl := Lib.hid hD.out.len
      by_cases hlt : j < xs.length
      · have hltz : (j : Int) < (xs.length : Int) := by omega
        have hrd : rd cur (j : Int) = xs.getD j 0 := by rw [← hD.out.get 0]; simp [rd]
        obtain ⟨hcj, _⟩ := own_at hO.out (j : Int) (by omega) (by omega)
        obtain ⟨hci, hfi⟩ := own_at hO.out (i : Int) (by omega) (by omega)
        rw [Int.toNat_natCast] at hcj hci hfi
        rw [hrd] at hcj
        clear hrd
        have hm : xs.getD j 0 ∈ xs := by simp [List.getD_eq_getElem?_getD, hlt]
        have hcall := HG.out wr (xs.getD j 0) hm hK.out
        clear hm
        obtain ⟨y, HY⟩ : ∃ y, Hid (xs.getD j 0 = y) := ⟨_, rfl⟩
        rw [HY.out] at hcj hcall
        cases hq : p y with
        | false =>
          rw [hq] at hcall
          have HQ := Lib.hid hq
          clear hq
          generalize rd cur (i : Int) = old at hci
          have hafter : ∀ w2, Below wr.heap.size wr w2 → w2.cell? ⟨b, i, none⟩ = some (.int .i64 old) ∧ w2.frozen? ⟨b, i, none⟩ = false := fun w2 h2 => ⟨pw_cell_below h2 hci, by
            have := pw_own_below hO.out h2
            have := (own_at this (i : Int) (by omega) (by omega)).2
            rwa [Int.toNat_natCast] at this⟩
          have HA := Aside0.mk hafter
          clear hafter hci hfi
          go_wp2_with (go_at_fn g; refine hcall.mono ?_; rintro e w2 ⟨rfl, hb2⟩; obtain ⟨hc2, hf2⟩ := HA.out w2 hb2)
          go_roundg (xs.length - (j + 1))
          case measure => omega
          case rel =>
            have hO2 := pw_own_below hO.out hb2
            obtain ⟨hs, _⟩ := own_store hO2 (i : Int) y
            rw [Int.toNat_natCast] at hs
            exact ⟨i + 1, j + 1, cur.set i y, by go_num, by go_num, by omega, ⟨HY.out ▸ hD.out.keep hlt 0 (by rw [HY.out]; exact HQ.out)⟩, ⟨hs⟩, ⟨(keep_then_below hK.out hb2).set_ i _⟩, ⟨(below_then hBw.out (Nat.le_trans HZ0.out hBw.out.size) hb2).setCell (p := ⟨b, i, none⟩) hb _⟩⟩
        | true =>
          rw [hq] at hcall
          have HQ := Lib.hid hq
          clear hq
          clear hci hfi
          go_wp2_with (go_at_fn g; refine hcall.mono ?_; rintro e w2 ⟨rfl, hb2⟩)
          go_roundg (xs.length - (j + 1))
          case measure => omega
          case rel => exact ⟨i, j + 1, cur, rfl, by go_num, by omega, ⟨hD.out.skip hlt 0 (by rw [HY.out]; exact HQ.out)⟩, ⟨pw_own_below hO.out hb2⟩, ⟨keep_then_below hK.out hb2⟩, ⟨below_then hBw.out (Nat.le_trans HZ0.out hBw.out.size) hb2⟩⟩
      · obtain rfl : j = xs.length := by omega
        have hltz : ¬ (xs.length : Int) < (xs.length : Int) := by omega
        have hpt : wr.ownsRow base 3 1 (.slice (some ⟨b, 0, none⟩) i cap) i (nums .i64 (cur.take i)) := own_take hO.out i (by omega)
        have hlt2 : (cur.take i).length = i := by rw [List.length_take, hcl.out]; omega
        have HZ := Aside0.mk (own_zeros base b cap i (cur.take i) hlt2 (List.replicate (xs.length - i) (.int .i64 0)) i wr (Nat.le_refl _) hpt (fun z hz => List.eq_of_mem_replicate hz))
        clear hpt hlt2
        have hcl2 : ∀ ty, (Builtin.clear_ #[24] ty #[.slice (some ⟨b, i, none⟩) (xs.length - i) (cap - i)]).run Try.prog wr = .ok (.tuple #[]) (wr.setCells b i (List.replicate (xs.length - i) (.int .i64 0))) :=
          fun ty => Lib.run_clear_slice wr _ _ ty _ Try.underlying24 Try.zeroValue3 rfl rfl b i _ _ (by omega)
            (fun t ht => by have := (own_at hO.out ((i + t : Nat) : Int) (by omega) (by omega)).1; rw [Int.toNat_natCast] at this; rw [this]; rfl)
            (fun t ht => by have := (own_at hO.out ((i + t : Nat) : Int) (by omega) (by omega)).2; rwa [Int.toNat_natCast] at this)
        go_wp2
        go_ret
        obtain ⟨z1, z2, z3⟩ := HZ.out
        have e1 := hD.out.done
        have e2 := hD.out.count
        rw [e1] at z1
        exact ⟨by rw [e2]; rfl, by rw [e2]; exact z1, hK.out.trans z2 (.inl rfl), z3 B0 w hb hBw.out⟩

set_option maxHeartbeats 1000000 in
theorem del_nil (a : Option Addr) (c : Nat) (fv : Value) (w : World) :
    Calls Try.prog 41 #[.slice a 0 c, fv] w fun e w' => e = .returned (.slice a 0 c) ∧ w' = w := by
  have hI := Try.slices_IndexFunc_empty (α := Int) a c fv w
  go_enter Try.func41, Try.ntmps41
  go_wp2_with (go_at_call 69; refine hI.mono ?_; rintro e w1 ⟨rfl, rfl⟩)
  go_ret
  exact ⟨rfl, rfl⟩

/-- A row of whole numbers of the call's own, from block B on. -/
def OwnZ (W : World) (B : Nat) (v : Value) (l : List Int) : Prop := W.ownsRow B 3 1 v l.length (nums .i64 l)
theorem OwnZ.below {W W' : World} {B : Nat} {v : Value} {l : List Int} (h : OwnZ W B v l) (hb : Below W.heap.size W W') : OwnZ W' B v l := pw_own_below h hb
theorem OwnZ.lower {W : World} {B B' : Nat} {v : Value} {l : List Int} (h : OwnZ W B v l) (hb : B' ≤ B) : OwnZ W B' v l := by
  obtain ⟨h1, h2 | ⟨g, cap, cur, h2, h3, h4⟩⟩ := h
  · exact ⟨h1, .inl h2⟩
  · exact ⟨h1, .inr ⟨g, cap, cur, h2, Nat.le_trans hb h3, h4⟩⟩
theorem OwnZ.form {W : World} {B : Nat} {v : Value} {l : List Int} (h : OwnZ W B v l) : ∃ A cap, v = .slice A l.length cap := by
  obtain ⟨h1, ⟨h2, h3⟩ | ⟨g, cap, cur, h2, h3, h4⟩⟩ := h
  · exact ⟨none, 0, by rw [h2, h3]⟩
  · exact ⟨_, _, h2⟩
theorem OwnZ.lt {W : World} {B : Nat} {v : Value} {l : List Int} (h : OwnZ W B v l) : ∀ k, v.ownBlock = some k → B ≤ k ∧ k < W.heap.size := World.ownsRow.lt h
theorem own_znil (W : World) (B : Nat) : OwnZ W B (.slice none 0 0) [] := ⟨rfl, .inl ⟨rfl, rfl⟩⟩
theorem own_znew (W : World) (B : Nat) (l : List Int) (hB : B ≤ W.heap.size) (hl : l.length ≤ maxLen) : OwnZ (W.alloc (.cells (nums .i64 l).toArray 3)) B (.slice (some ⟨W.heap.size, 0, none⟩) l.length l.length) l := by
  exact own_lit W B 3 .i64 l hB (by unfold maxLen at hl; exact hl)
/-- slices.DeleteFunc in these words. -/
theorem del_Z (g : Nat) (lb : Array Value) (p : Int → Bool) (eg : ∀ args w, (callFunc g args).run Try.prog w = .ok (.enter g args) w) (B : Nat) (v : Value) (xs : List Int) (w : World) (hz : B ≤ w.heap.size)
    (ho : OwnZ w B v xs) (hg : ∀ b, B ≤ b → b < w.heap.size → v.ownBlock = some b → GivesB g lb p xs b w) :
    Calls Try.prog 41 #[v, .func (.func g) #[] lb] w fun e w' => ∃ v' : Value, e = .returned v' ∧ OwnZ w' B v' (xs.filter fun x => !p x) ∧ Below B w w' := by
  have ho' := ho
  obtain ⟨hl, ⟨rfl, h0⟩ | ⟨b, cap, cur, hv, hb, hh, hnc, hcm, hcs, hct⟩⟩ := ho
  · obtain rfl : xs = [] := List.length_eq_zero_iff.mp h0
    exact (del_nil none 0 _ w).mono fun e w' ⟨he, hw⟩ => ⟨_, he, hw ▸ ho', hw ▸ Below.refl _ _⟩
  · subst hv
    refine (del_calls g lb p eg B b cap xs B w ho' (hg b hb (blk_lt hh) rfl) (by unfold maxLen at hcm; omega) hnc hb hz).mono ?_
    rintro e w' ⟨he, h1, _, h3⟩
    exact ⟨_, he, h1, h3⟩
end Go.Proofs.Ytcanbidenhcohaa.K

/- slices.Sort and slices.Compact at []int, in the words of a row of the call's own. -/
namespace Go.Proofs.Ytcanbidenhcohaa.K
open Go.RowKit Go.Lib Go.Proofs.YtcanbidenhcohaaW.PrintWords Go.Proofs.YtcanbidenhcohaaW.PrintLast Go.Proofs.YtcanbidenhcohaaW.PrintMore
set_option linter.unusedVariables false
set_option linter.unusedSimpArgs false

theorem row_put {w : World} {base b cap q : Nat} {os : Array Obj} {xs ys : List Int} (hy : ys.length = xs.length)
    (HO : w.ownsRow base 3 1 (.slice (some ⟨b, 0, none⟩) xs.length cap) xs.length (nums .i64 xs)) :
    (Sort.grow (Sort.putRow (Value.int .i64) (Sort.ahead w q) b 0 ys.toArray) os).ownsRow base 3 1 (.slice (some ⟨b, 0, none⟩) ys.length cap) ys.length (nums .i64 ys) ∧
    KeepBut w (Sort.grow (Sort.putRow (Value.int .i64) (Sort.ahead w q) b 0 ys.toArray) os) b none ∧ ∀ (B0 : Nat) (w0 : World), B0 ≤ b → Below B0 w0 w → Below B0 w0 (Sort.grow (Sort.putRow (Value.int .i64) (Sort.ahead w q) b 0 ys.toArray) os) := by
  obtain ⟨hl, h⟩ := HO
  rcases h with ⟨h, _⟩ | ⟨g, c, cur, h1, h2, h3, h4, h5, h6, h7⟩
  · cases h
  · injection h1 with a1 a2 a3
    injection a1 with a1
    injection a1 with a1
    subst a1 a3
    have hlt : b < w.heap.size := blk_lt h3
    have hsz : (Sort.putRow (Value.int .i64) (Sort.ahead w q) b 0 ys.toArray).heap.size = w.heap.size := by rw [Sort.size_putRow]; rfl
    have hput : (Sort.putRow (Value.int .i64) (Sort.ahead w q) b 0 ys.toArray).heap[b]? = some (.cells (Sort.putCells (Value.int .i64) 0 ys.toArray cur) 3 (0, 0)) := by
      have h3' : (Sort.ahead w q).heap[b]? = some (.cells cur 3 (0, 0)) := h3
      simp only [Sort.putRow, Sort.mapBlock, Array.getElem?_modify, if_true, h3', Option.map_some, Sort.onCells]
    have hoth : ∀ i, i ≠ b → (Sort.putRow (Value.int .i64) (Sort.ahead w q) b 0 ys.toArray).heap[i]? = w.heap[i]? := by
      intro i hi
      simp [Sort.putRow, Sort.mapBlock, Array.getElem?_modify, Ne.symm hi]
    refine ⟨⟨by simp [nums], .inr ⟨b, cap, _, rfl, h2, (Sort.heap_grow_old _ os (by omega)).trans hput, by omega, h5, by simp [Sort.putCells, h6], ?_⟩⟩, ⟨?_, ?_⟩, ?_⟩
    · apply List.ext_getElem?
      intro i
      by_cases hi : i < ys.length
      · have hic : i < cur.size := by omega
        rw [Nat.mul_one, List.getElem?_take_of_lt hi]
        simp [Sort.putCells, nums, hi, hic, Array.getElem?_eq_getElem, List.getElem?_eq_getElem]
      · rw [List.getElem?_eq_none (by rw [List.length_take]; omega), List.getElem?_eq_none (by simp [nums]; omega)]
    · show w.heap.size ≤ ((Sort.putRow (Value.int .i64) (Sort.ahead w q) b 0 ys.toArray).heap ++ os).size
      rw [Array.size_append]; omega
    · intro i hi hib _
      rw [Sort.heap_grow_old _ os (by omega), hoth i hib]
    · intro B0 w0 hb hB
      refine ⟨hB.os, hB.tape, hB.output, ?_, ?_⟩
      · show w0.heap.size ≤ ((Sort.putRow (Value.int .i64) (Sort.ahead w q) b 0 ys.toArray).heap ++ os).size
        rw [Array.size_append]; have := hB.size; omega
      · intro i hi
        have := hB.size
        rw [Sort.heap_grow_old _ os (by omega), hoth i (by omega)]
        exact hB.block i hi

theorem own_holds {w : World} {base b cap : Nat} {xs : List Int} (HO : w.ownsRow base 3 1 (.slice (some ⟨b, 0, none⟩) xs.length cap) xs.length (nums .i64 xs)) : Sort.Holds (Value.int .i64) w b 0 xs.toArray := by
  intro j hj
  have hj' : j < xs.length := by simpa using hj
  obtain ⟨h1, h2⟩ := own_at HO (j : Int) (by omega) (by omega)
  rw [Int.toNat_natCast] at h1 h2
  rw [Nat.zero_add]
  refine ⟨h1.trans ?_, h2⟩
  simp [rd, hj', List.getD_eq_getElem?_getD]

theorem sort_Z (B : Nat) (v : Value) (xs : List Int) (w : World) (hs : xs.length < 4611686018427387904) (ho : OwnZ w B v xs) :
    Calls Try.prog 45 #[v] w fun e w' => e = .returned (.tuple #[]) ∧ OwnZ w' B v (xs.mergeSort fun x y => decide (x ≤ y)) ∧ Below B w w' := by
  have ho' := ho
  obtain ⟨hl, ⟨rfl, h0⟩ | ⟨b, cap, cur, hv, hb, hh, hnc, hcm, hcs, hct⟩⟩ := ho
  · obtain rfl : xs = [] := List.length_eq_zero_iff.mp h0
    exact (Try.slices_Sort_int_none none 0 w).mono fun e w' ⟨he, hw⟩ => ⟨he, by rw [List.mergeSort_nil]; exact hw ▸ ho', hw ▸ Below.refl _ _⟩
  · subst hv
    refine (Try.slices_Sort_int b 0 cap xs w (own_holds ho') (blk_lt hh) hs).mono ?_
    rintro e w' ⟨he, q, os, rfl⟩
    obtain ⟨h1, h2, h3⟩ := row_put (q := q) (os := os) (xs := xs) (ys := xs.mergeSort fun x y => decide (x ≤ y)) (List.length_mergeSort _) ho'
    refine ⟨he, ?_, h3 B w hb (Below.refl _ _)⟩
    unfold OwnZ
    rw [List.length_mergeSort] at h1 ⊢
    exact h1
theorem compact_len (xs : List Int) : (Lib.compact xs).length ≤ xs.length := by
  unfold Lib.compact Lib.compactUpTo
  rw [List.length_map]
  exact Nat.le_trans (List.length_filter_le _ _) (by simp)
theorem compact_Z (B : Nat) (v : Value) (xs : List Int) (w : World) (ho : OwnZ w B v xs) :
    Calls Try.prog 46 #[v] w fun e w' => ∃ v' : Value, e = .returned v' ∧ OwnZ w' B v' (Lib.compact xs) ∧ Below B w w' := by
  have ho' := ho
  obtain ⟨hl, ⟨rfl, h0⟩ | ⟨b, cap, cur, hv, hb, hh, hnc, hcm, hcs, hct⟩⟩ := ho
  · obtain rfl : xs = [] := List.length_eq_zero_iff.mp h0
    exact (Try.slices_Compact_int_empty none 0 w).mono fun e w' ⟨he, hw⟩ => ⟨_, he, hw ▸ ho', hw ▸ Below.refl _ _⟩
  · subst hv
    refine (Try.slices_Compact_int b 0 cap xs w (own_holds ho') (by unfold maxLen at hcm; omega) hnc).mono ?_
    rintro e w' ⟨he, q, rfl⟩
    have hc := compact_len xs
    obtain ⟨h1, h2, h3⟩ := row_put (q := q) (os := #[]) (xs := xs) (ys := Lib.compact xs ++ List.replicate (xs.length - (Lib.compact xs).length) 0) (by simp; omega) ho'
    rw [Sort.grow_empty] at h1 h2 h3
    refine ⟨_, he, ?_, h3 B w hb (Below.refl _ _)⟩
    have h4 := own_take h1 (Lib.compact xs).length (by simp)
    rw [List.take_left] at h4
    exact h4
end Go.Proofs.Ytcanbidenhcohaa.K

/- Walks: reach's views, steps, small lists of squares. -/
namespace Go.Proofs.Ytcanbidenhcohaa.K
open Go.RowKit Go.Lib Go.Proofs.YtcanbidenhcohaaW.PrintWords Go.Proofs.YtcanbidenhcohaaW.PrintLast Go.Proofs.YtcanbidenhcohaaW.PrintMore Go.Proofs.Ytcanbidenhcohaa.Sp
set_option linter.unusedVariables false
set_option linter.unusedSimpArgs false
attribute [local go_sem] cel_get   -- for this text's walks alone
theorem info_intZ : (Try.prog.info? 3).map (fun i => (i.zero, i.size, i.bytes)) = some (some (.int .i64 0), 1, 8) := by kernel_rfl
/-- A view, and its box. -/
abbrev vwV (s : ByteArray) (a x : Nat) : Value := .agg #[.string s, .int .i64 (a : Int), .int .u8 (x : Int)]
structure VwAt (w0 W : World) (s : ByteArray) (a x : Nat) : Prop where
  c0 : W.cell? ⟨w0.heap.size, 0, none⟩ = some (.string s)
  c1 : W.cell? ⟨w0.heap.size, 1, none⟩ = some (.int .i64 (a : Int))
  c2 : W.cell? ⟨w0.heap.size, 2, none⟩ = some (.int .u8 (x : Int))
  bel : Below w0.heap.size w0 W
theorem VwAt.lt {w0 W : World} {s : ByteArray} {a x : Nat} (h : VwAt w0 W s a x) : w0.heap.size < W.heap.size := World.block_lt_of_cell? W _ h.c0
theorem VwAt.keep {w0 W W' : World} {s : ByteArray} {a x : Nat} (h : VwAt w0 W s a x) {B : Nat} (hB : w0.heap.size < B) (hb : Below B W W') : VwAt w0 W' s a x :=
  ⟨(hb.cell (p := ⟨w0.heap.size, 0, none⟩) hB).trans h.c0, (hb.cell (p := ⟨w0.heap.size, 1, none⟩) hB).trans h.c1, (hb.cell (p := ⟨w0.heap.size, 2, none⟩) hB).trans h.c2, h.bel.trans (hb.mono (Nat.le_of_lt hB))⟩
theorem VwAt.below {w0 W W' : World} {s : ByteArray} {a x : Nat} (h : VwAt w0 W s a x) (hb : Below W.heap.size W W') : VwAt w0 W' s a x := h.keep h.lt hb
theorem VwAt.drew {w0 W : World} {s : ByteArray} {a x : Nat} (h : VwAt w0 W s a x) : VwAt w0 W.drew s a x := h.below (pw_below_drewN (Below.refl _ _) 1)
theorem VwAt.new (w : World) (s : ByteArray) (a x : Nat) : VwAt w (w.alloc (.cells #[.string s, .int .i64 (a : Int), .int .u8 (x : Int)] 53)) s a x :=
  ⟨by simp [World.cell?_alloc_at], by simp [World.cell?_alloc_at], by simp [World.cell?_alloc_at], below_alloc (Below.refl _ _) _⟩
theorem mayS_eq (x : Nat) (y : Int) : mayS x y = mayZ x y := by
  unfold mayS mayZ
  by_cases h : 0 ≤ sideN x
  · simp [h]
  · have : mayN x y.toNat = false := by unfold mayN; rw [if_pos (by omega)]
    rw [this]; simp
theorem isq_c (n : Int) (w : World) : Calls Try.prog 44 #[.int .i64 n] w fun e w' => e = .returned (.bool (decide (0 ≤ n ∧ n < 90))) ∧ w' = w := by
  by_cases h0 : 0 ≤ n
  all_goals
    go_enter Try.func44, Try.ntmps44
    go_wp2_with fail
    go_ret
    refine ⟨ret_bool ?_, rfl⟩
    rw [Bool.eq_iff_iff]; simp; omega
set_option maxHeartbeats 1000000 in
theorem step_c (s : ByteArray) (a x : Nat) (ha : a < 90) (f r : Int) (hf : -60 ≤ f ∧ f ≤ 60) (hr : -60 ≤ r ∧ r ≤ 60) (w : World) : Calls Try.prog 94 #[vwV s a x, .int .i64 f, .int .i64 r] w fun e w' => e = .returned (.int .i64 (stepN a f r)) ∧ Below w.heap.size w w' := by
  have HF := Aside0.mk (fun W => file_c a ha W)
  have HR := Aside0.mk (fun W => rank_c a ha W)
  have HQ := Aside0.mk (fun W => square_c (((a % 9 : Nat) : Int) + f) (((a / 9 : Nat) : Int) + r) W)
  have HE := Aside0.mk (show stepN a f r = squareZ (((a % 9 : Nat) : Int) + f) (((a / 9 : Nat) : Int) + r) from rfl)
  have u0 : 0 ≤ ((a % 9 : Nat) : Int) := by omega
  have u1 : ((a % 9 : Nat) : Int) < 9 := by omega
  have v0 : 0 ≤ ((a / 9 : Nat) : Int) := by omega
  have v1 : ((a / 9 : Nat) : Int) < 10 := by omega
  obtain ⟨f0, f1⟩ := hf
  obtain ⟨r0, r1⟩ := hr
  generalize stepN a f r = z at *
  generalize ((a % 9 : Nat) : Int) = u at *
  generalize ((a / 9 : Nat) : Int) = v at *
  have HB := Aside0.mk (VwAt.new w s a x)
  have hu := Try.underlying53
  clear ha
  go_enter Try.func94, Try.ntmps94
  go_wp2_with fail
  generalize w.alloc (.cells #[.string s, .int .i64 (a : Int), .int .u8 (x : Int)] 53) = W1 at *
  obtain ⟨c0, c1, c2, _⟩ := HB.out
  go_quiet (first | (go_at_call 27; exact Calls.quiet_of_same (HF.out _)) | (go_at_call 25; exact Calls.quiet_of_same (HR.out _)) | (go_at_call 114; exact Calls.quiet_of_same (HQ.out _)))
  go_wp2_with fail
  go_ret
  exact ⟨ret_int HE.out.symm, pw_below_drewN HB.out.bel _⟩
theorem empty_c (s : ByteArray) (hs : s.size = 90) (a x : Nat) (n : Int) (w : World) : Calls Try.prog 93 #[vwV s a x, .int .i64 n] w fun e w' => e = .returned (.bool (emptyZ s n)) ∧ Below w.heap.size w w' := by
  have HI := Aside0.mk (fun W => isq_c n W)
  have HB := Aside0.mk (VwAt.new w s a x)
  have hu := Try.underlying53
  have beq46' : ∀ x : Nat, ((x : Int) == 46) = (x == 46) := fun x => by rw [Bool.eq_iff_iff, beq_iff_eq, beq_iff_eq]; omega
  by_cases h : 0 ≤ n ∧ n < 90
  · rw [decide_eq_true h] at HI
    have h0 := h.1
    have h1 : n < (s.size : Int) := by rw [hs]; exact h.2
    have HE := Aside0.mk (show emptyZ s n = (cel s n.toNat == 46) by unfold emptyZ; rw [decide_eq_true h, Bool.true_and])
    have HQ := Aside0.mk (beq46' (cel s n.toNat))
    clear h hs beq46'
    go_enter Try.func93, Try.ntmps93
    go_wp2_with (go_at_call 44; refine (HI.out _).mono ?_; rintro e w1 ⟨rfl, rfl⟩)
    go_ret
    exact ⟨ret_bool (by rw [HE.out]; exact HQ.out), HB.out.bel⟩
  · rw [decide_eq_false h] at HI
    have HE := Aside0.mk (show emptyZ s n = false by unfold emptyZ; rw [decide_eq_false h, Bool.false_and])
    clear h hs beq46'
    go_enter Try.func93, Try.ntmps93
    go_wp2_with (go_at_call 44; refine (HI.out _).mono ?_; rintro e w1 ⟨rfl, rfl⟩)
    go_ret
    exact ⟨ret_bool HE.out.symm, HB.out.bel⟩
/-! ### four -/
def fourZ (a : Nat) (f r : Int) : List Int := [stepN a f r, stepN a (-f) r, stepN a f (-r), stepN a (-f) (-r)]
set_option maxHeartbeats 2000000 in
theorem four_c (s : ByteArray) (a x : Nat) (ha : a < 90) (f r : Int) (hf : -9 ≤ f ∧ f ≤ 9) (hr : -9 ≤ r ∧ r ≤ 9) (w : World) : Calls Try.prog 91 #[vwV s a x, .int .i64 f, .int .i64 r] w fun e w' => ∃ v, e = .returned v ∧ OwnZ w' w.heap.size v (fourZ a f r) ∧ Below w.heap.size w w' := by
  have HS := Aside0.mk (fun (f r : Int) (h1 : -60 ≤ f ∧ f ≤ 60) (h2 : -60 ≤ r ∧ r ≤ 60) (W : World) => step_c s a x ha f r h1 h2 W)
  have n1 : IntKind.i64.wrap (-f) = -f := by rw [IntKind.wrap_i64]; omega
  have n2 : IntKind.i64.wrap (-r) = -r := by rw [IntKind.wrap_i64]; omega
  have n3 : wrap64 (-f) = -f := by unfold wrap64; omega
  have n4 : wrap64 (-r) = -r := by unfold wrap64; omega
  have HB := Aside0.mk (VwAt.new w s a x)
  have hu := Try.underlying53
  have HFR := Aside0.mk (And.intro hf hr)
  clear ha hf hr
  go_enter Try.func91, Try.ntmps91
  go_wp2_with fail
  generalize w.alloc (.cells #[.string s, .int .i64 (a : Int), .int .u8 (x : Int)] 53) = W1 at *
  have HA := Aside0.mk HB.out.drew
  obtain ⟨c0, c1, c2, _⟩ := HB.out
  go_region_held3 (fun W => W.cell? ⟨w.heap.size, 0, none⟩ = some (.string s) ∧ W.cell? ⟨w.heap.size, 1, none⟩ = some (.int .i64 (a : Int)) ∧ W.cell? ⟨w.heap.size, 2, none⟩ = some (.int .u8 (x : Int))) (go_keep)
    (first
      | (go_at_call 94; refine (HS.out _ _ (by have := HFR.out; omega) (by have := HFR.out; omega) _).mono ?_; rintro e w2 ⟨rfl, hb⟩; have HAn := Aside0.mk (HA.out.below hb); clear HA hb c0 c1 c2; have HA := HAn; clear HAn; obtain ⟨c0, c1, c2, _⟩ := HA.out))
  all_goals
    go_wp2_with fail
    go_ret
    exact ⟨_, rfl, own_znew _ _ [_, _, _, _] HA.out.bel.size (by simp [maxLen]), HA.out.bel.trans ((below_alloc (Below.refl _ _) _).mono HA.out.bel.size)⟩
end Go.Proofs.Ytcanbidenhcohaa.K

/- Walk: reach's line. -/
namespace Go.Proofs.Ytcanbidenhcohaa.K
open Go.RowKit Go.Lib Go.Proofs.YtcanbidenhcohaaW.PrintWords Go.Proofs.YtcanbidenhcohaaW.PrintLast Go.Proofs.YtcanbidenhcohaaW.PrintMore Go.Proofs.Ytcanbidenhcohaa.Sp
set_option linter.unusedVariables false
set_option linter.unusedSimpArgs false
attribute [local go_sem] cel_get   -- for this text's walks alone
/-! ### the plain law of one way -/
theorem drop_cons' {R : List Nat} {j t : Nat} (h : R[j]? = some t) : R.drop j = t :: R.drop (j + 1) := by
  obtain ⟨hj, rfl⟩ := List.getElem?_eq_some_iff.1 h
  exact List.drop_eq_getElem_cons hj
theorem take_snoc {R : List Nat} {j t : Nat} (h : R[j]? = some t) : R.take (j + 1) = R.take j ++ [t] := by
  obtain ⟨hj, rfl⟩ := List.getElem?_eq_some_iff.1 h
  exact List.take_succ_eq_append_getElem hj
/-- What was met along a way, j squares on, p pieces met. -/
def LineSt (s : ByteArray) (R : List Nat) (j p : Nat) (F : List Int) (f g : Int) : Prop :=
  (p = 0 ∧ j ≤ R.length ∧ F = ints (R.take j) ∧ f = -1 ∧ g = -1 ∧ R.takeWhile (em s) = R.take j ++ (R.drop j).takeWhile (em s) ∧ R.dropWhile (em s) = (R.drop j).dropWhile (em s)) ∨
  (p = 1 ∧ j ≤ R.length ∧ F = ints (R.takeWhile (em s)) ∧ f = hd (R.dropWhile (em s)) ∧ g = -1 ∧ (R.dropWhile (em s)).tail.dropWhile (em s) = (R.drop j).dropWhile (em s)) ∨
  (p = 2 ∧ j ≤ R.length ∧ F = ints (R.takeWhile (em s)) ∧ f = hd (R.dropWhile (em s)) ∧ g = hd ((R.dropWhile (em s)).tail.dropWhile (em s)))
def LineEnd (s : ByteArray) (R : List Nat) (F : List Int) (f g : Int) : Prop :=
  F = ints (R.takeWhile (em s)) ∧ f = hd (R.dropWhile (em s)) ∧ g = hd ((R.dropWhile (em s)).tail.dropWhile (em s))
theorem line_start (s : ByteArray) (R : List Nat) : LineSt s R 0 0 [] (-1) (-1) := .inl ⟨rfl, by omega, rfl, rfl, rfl, rfl, rfl⟩
theorem line_two {s : ByteArray} {R : List Nat} {j : Nat} {F : List Int} {f g : Int} (h : LineSt s R j 2 F f g) : LineEnd s R F f g := by
  rcases h with h | h | h
  · exact absurd h.1 (by omega)
  · exact absurd h.1 (by omega)
  · exact h.2.2
theorem line_out {s : ByteArray} {R : List Nat} {j p : Nat} {F : List Int} {f g : Int} (h : LineSt s R j p F f g) (hp : p < 2) (hn : R[j]? = none) : LineEnd s R F f g := by
  have hd0 : R.drop j = [] := List.drop_eq_nil_of_le (by rw [List.getElem?_eq_none_iff] at hn; exact hn)
  rcases h with ⟨_, _, hF, hf, hg, h1, h2⟩ | ⟨_, _, hF, hf, hg, h1⟩ | h
  · rw [hd0] at h1 h2
    refine ⟨by rw [hF, h1]; simp, by rw [h2, hf]; rfl, by rw [h2, hg]; rfl⟩
  · rw [hd0] at h1
    exact ⟨hF, hf, by rw [h1, hg]; rfl⟩
  · omega
theorem line_len {s : ByteArray} {R : List Nat} {j p : Nat} {F : List Int} {f g : Int} (h : LineSt s R j p F f g) : F.length ≤ R.length ∧ j ≤ R.length := by
  have htw : (R.takeWhile (em s)).length ≤ R.length := (List.takeWhile_sublist (em s) (l := R)).length_le
  rcases h with ⟨_, h0, rfl, _⟩ | ⟨_, h0, rfl, _⟩ | ⟨_, h0, rfl, _⟩
  · simp [ints]; omega
  · simp [ints]; omega
  · simp [ints]; omega
theorem line_free {s : ByteArray} {R : List Nat} {j t : Nat} {F : List Int} {f g : Int} (h : LineSt s R j 0 F f g) (ht : R[j]? = some t) (he : em s t = true) : LineSt s R (j + 1) 0 (F ++ [(t : Int)]) f g := by
  have hj := (List.getElem?_eq_some_iff.1 ht).1
  rcases h with ⟨_, h0, hF, hf, hg, h1, h2⟩ | h | h
  · rw [drop_cons' ht, List.takeWhile_cons, if_pos he] at h1
    rw [drop_cons' ht, List.dropWhile_cons, if_pos he] at h2
    refine .inl ⟨rfl, by omega, ?_, hf, hg, ?_, h2⟩
    · rw [take_snoc ht, hF]; simp [ints]
    · rw [h1, take_snoc ht]; simp
  · exact absurd h.1 (by omega)
  · exact absurd h.1 (by omega)
theorem line_first {s : ByteArray} {R : List Nat} {j t : Nat} {F : List Int} {f g : Int} (h : LineSt s R j 0 F f g) (ht : R[j]? = some t) (he : em s t = false) : LineSt s R (j + 1) 1 F t g := by
  have hj := (List.getElem?_eq_some_iff.1 ht).1
  rcases h with ⟨_, h0, hF, hf, hg, h1, h2⟩ | h | h
  · rw [drop_cons' ht, List.takeWhile_cons, if_neg (by rw [he]; simp)] at h1
    rw [drop_cons' ht, List.dropWhile_cons, if_neg (by rw [he]; simp)] at h2
    refine .inr (.inl ⟨rfl, by omega, ?_, ?_, hg, ?_⟩)
    · rw [hF, h1]; simp
    · rw [h2]; rfl
    · rw [h2]; rfl
  · exact absurd h.1 (by omega)
  · exact absurd h.1 (by omega)
theorem line_pass {s : ByteArray} {R : List Nat} {j t : Nat} {F : List Int} {f g : Int} (h : LineSt s R j 1 F f g) (ht : R[j]? = some t) (he : em s t = true) : LineSt s R (j + 1) 1 F f g := by
  have hj := (List.getElem?_eq_some_iff.1 ht).1
  rcases h with h | ⟨_, h0, hF, hf, hg, h1⟩ | h
  · exact absurd h.1 (by omega)
  · rw [drop_cons' ht, List.dropWhile_cons, if_pos he] at h1
    exact .inr (.inl ⟨rfl, by omega, hF, hf, hg, h1⟩)
  · exact absurd h.1 (by omega)
theorem line_second {s : ByteArray} {R : List Nat} {j t : Nat} {F : List Int} {f g : Int} (h : LineSt s R j 1 F f g) (ht : R[j]? = some t) (he : em s t = false) : LineSt s R (j + 1) 2 F f t := by
  have hj := (List.getElem?_eq_some_iff.1 ht).1
  rcases h with h | ⟨_, h0, hF, hf, hg, h1⟩ | h
  · exact absurd h.1 (by omega)
  · rw [drop_cons' ht, List.dropWhile_cons, if_neg (by rw [he]; simp)] at h1
    exact .inr (.inr ⟨rfl, by omega, hF, hf, by rw [h1]; rfl⟩)
  · exact absurd h.1 (by omega)
theorem dir_small : ∀ w ∈ dirs, -1 ≤ w.1 ∧ w.1 ≤ 1 ∧ -1 ≤ w.2 ∧ w.2 ≤ 1 := by decide
/-- The square that a step comes to. -/
theorem ray_at (n : Nat) (hn : n < 90) (w : Int × Int) (hw : w ∈ dirs) (j : Nat) (hj : j ≤ (rayN n w).length) :
    stepN n (((j : Int) + 1) * w.1) (((j : Int) + 1) * w.2) = (match (rayN n w)[j]? with | none => -1 | some t => (t : Int)) ∧ (∀ t, (rayN n w)[j]? = some t → t < 90) ∧
    (-10 ≤ ((j : Int) + 1) * w.1 ∧ ((j : Int) + 1) * w.1 ≤ 10) ∧ (-10 ≤ ((j : Int) + 1) * w.2 ∧ ((j : Int) + 1) * w.2 ≤ 10) := by
  obtain ⟨g1, g2, g3⟩ := ray_geo ⟨n, hn⟩ w hw
  simp only at g2
  have hb := dir_small w hw
  have m1 : ((j : Int) + 1) * w.1 = ((j : Nat) : Int) * w.1 + w.1 := by rw [Int.add_mul]; simp
  have m2 : ((j : Int) + 1) * w.2 = ((j : Nat) : Int) * w.2 + w.2 := by rw [Int.add_mul]; simp
  have key : ∀ d : Int, -1 ≤ d → d ≤ 1 → -10 ≤ (j : Int) * d + d ∧ (j : Int) * d + d ≤ 10 := by
    intro d h1 h2
    have : d = -1 ∨ d = 0 ∨ d = 1 := by omega
    rcases this with h | h | h <;> rw [h] <;> omega
  rw [m1, m2]
  refine ⟨?_, ?_, key _ hb.1 hb.2.1, key _ hb.2.2.1 hb.2.2.2⟩
  · cases hr : (rayN n w)[j]? with
    | none =>
      have hl := List.getElem?_eq_none_iff.1 hr
      exact g1 ⟨j, by omega⟩ hr (by simp only; omega)
    | some t =>
      have hl := (List.getElem?_eq_some_iff.1 hr).1
      exact (g3 ⟨j, by omega⟩ t (by simp only; rw [hr]; rfl)).1
  · intro t hr
    have hl := (List.getElem?_eq_some_iff.1 hr).1
    exact (g3 ⟨j, by omega⟩ t (by simp only; rw [hr]; rfl)).2
/-! ### the walk -/
def Halt (P : Prop) : Prop := P
theorem halt {P : Prop} (h : Halt P) : P := h
theorem Halt.go {P : Prop} (h : P) : Halt P := h
structure LnAt (w0 W : World) (s : ByteArray) (a x : Nat) (v : Value) (F : List Int) : Prop where
  vw : VwAt w0 W s a x
  own : OwnZ W (w0.heap.size + 1) v F
theorem LnAt.below {w0 W W' : World} {s : ByteArray} {a x : Nat} {v : Value} {F : List Int} (h : LnAt w0 W s a x v F) (hb : Below W.heap.size W W') : LnAt w0 W' s a x v F := ⟨h.vw.below hb, h.own.below hb⟩
set_option maxRecDepth 100000 in
set_option maxHeartbeats 4000000 in
theorem line_c (s : ByteArray) (hs : s.size = 90) (a x : Nat) (ha : a < 90) (d : Int × Int) (hd : d ∈ dirs) (w : World) : Calls Try.prog 115 #[vwV s a x, .int .i64 d.1, .int .i64 d.2] w fun e w' => ∃ v, e = .returned (.tuple #[v, .int .i64 (firstZ s a d), .int .i64 (secondZ s a d)]) ∧ OwnZ w' w.heap.size v (ints (freeL s a d)) ∧ Below w.heap.size w w' := by
  have HS := Aside0.mk (fun (f r : Int) (h1 : -60 ≤ f ∧ f ≤ 60) (h2 : -60 ≤ r ∧ r ≤ 60) (W : World) => step_c s a x ha f r h1 h2 W)
  have HI := Aside0.mk (fun n W => isq_c n W)
  have HRY := Aside0.mk (fun j hj => ray_at a ha d hd j hj)
  have hlen : (rayN a d).length ≤ 9 := (ray_geo ⟨a, ha⟩ d hd).2.1
  have HEND := Aside0.mk (show ∀ (F : List Int) (f g : Int), LineEnd s (rayN a d) F f g → F = ints (freeL s a d) ∧ f = firstZ s a d ∧ g = secondZ s a d from fun F f g h => h)
  have HB := Aside0.mk (VwAt.new w s a x)
  have hu := Try.underlying53
  have HSZ := Aside0.mk hs
  generalize rayN a d = R at *
  generalize firstZ s a d = z1 at *
  generalize secondZ s a d = z2 at *
  generalize freeL s a d = fl at *
  obtain ⟨d1, d2⟩ := d
  simp only at HRY
  have HLR := Aside0.mk hlen
  clear ha hs hd hlen
  go_enter Try.func115, Try.ntmps115
  go_wp2_with fail
  have HL0 := Aside0.mk (show LnAt w _ s a x (.slice none 0 0) [] from ⟨HB.out, own_znil _ _⟩)
  generalize w.alloc (.cells #[.string s, .int .i64 (a : Int), .int .u8 (x : Int)] 53) = W1 at *
  go_loopg [6, 7, 8, 9, 10] 12 (fun gg s6 s7 s8 s9 s10 wr => ∃ (j p : Nat) (F : List Int) (f g : Int), s7 = .int .i64 f ∧ s8 = .int .i64 g ∧ s9 = .int .i64 (p : Int) ∧ s10 = .int .i64 ((j : Int) + 1) ∧ j + gg = 12 ∧ p ≤ 2 ∧ Aside0 (LineSt s R j p F f g) ∧ Aside0 (LnAt w wr s a x s6 F))
  case atStart => exact ⟨0, 0, [], -1, -1, rfl, rfl, rfl, rfl, by omega, by omega, ⟨line_start s R⟩, HL0⟩
  case round =>
    clear HL0 HB
    obtain ⟨j, p, F, f, g, rfl, rfl, rfl, rfl, hj, hp, HST, HL⟩ := hrel
    obtain ⟨hFl, hjl⟩ := line_len HST.out
    have hR := HLR.out
    obtain ⟨hr1, hr2, hr3, hr4⟩ := HRY.out j hjl
    have HR2 := Aside0.mk hr2
    have HF9 := Aside0.mk (show F.length ≤ 9 by omega)
    obtain ⟨gk, rfl⟩ : ∃ g', gk = g' + 1 := ⟨gk - 1, by omega⟩
    have HJ := Aside0.mk (show j + 1 + gk = 12 by omega)
    have k0 : 1 ≤ (j : Int) + 1 := by omega
    have k1 : (j : Int) + 1 ≤ 12 := by omega
    have HK := Aside0.mk (show ((j + 1 : Nat) : Int) + 1 = (j : Int) + 1 + 1 by omega)
    obtain ⟨m1, m2⟩ := hr3
    obtain ⟨m3, m4⟩ := hr4
    generalize (j : Int) + 1 = k at *
    obtain ⟨c0, c1, c2, _⟩ := HL.out.vw
    have HPP : p = 0 ∨ p = 1 ∨ p = 2 := by omega
    clear hp hj hFl hjl hR hr2
    rcases HPP with rfl | rfl | rfl
    case inr.inr =>
      obtain ⟨e1, rfl, rfl⟩ := HEND.out _ _ _ (line_two HST.out)
      clear m1 m2 m3 m4 hr1
      go_wp2_with fail
      go_returns
      exact ⟨_, rfl, e1 ▸ HL.out.own.lower (by omega), HL.out.vw.bel⟩
    all_goals
      go_wp2_with fail
      refine (HS.out _ _ (by omega) (by omega) _).mono ?_
      rintro e w2 ⟨rfl, hb⟩
      have HL2 := Aside0.mk (HL.out.below hb)
      clear hb HL c0 c1 c2
      rw [hr1]
      clear hr1 m1 m2 m3 m4
      obtain ⟨c0, c1, c2, _⟩ := HL2.out.vw
      cases hr : R[j]? with
      | none =>
        have HI1 := HI.out (-1)
        rw [show decide ((0 : Int) ≤ -1 ∧ (-1 : Int) < 90) = false from rfl] at HI1
        have HI1 := Aside0.mk (fun W => (HI1 W))
        obtain ⟨e1, rfl, rfl⟩ := HEND.out _ _ _ (line_out HST.out (by omega) hr)
        simp only
        go_wp2_with (go_at_call 44; refine (HI1.out _).mono ?_; rintro e w3 ⟨rfl, rfl⟩)
        go_returns
        exact ⟨_, rfl, e1 ▸ HL2.out.own.lower (by omega), HL2.out.vw.bel⟩
      | some t =>
        have ht90 := HR2.out t hr
        have HI1 := HI.out (t : Int)
        rw [show decide ((0 : Int) ≤ (t : Int) ∧ (t : Int) < 90) = true from decide_eq_true (by omega)] at HI1
        have HI1 := Aside0.mk (fun W => (HI1 W))
        have t0 : 0 ≤ (t : Int) := by omega
        have t1 : (t : Int) < (s.size : Int) := by rw [HSZ.out]; omega
        have q : ((cel s t : Int) == 46) = em s t := by unfold em; rw [Bool.eq_iff_iff, beq_iff_eq, beq_iff_eq]; omega
        have HRT := Aside0.mk hr
        clear ht90 hr
        simp only
        cases he : em s t
        all_goals
          rw [he] at q
          have HE := Aside0.mk he
          clear he
          go_wp2_with (first | (go_at_call 44; refine (HI1.out _).mono ?_; rintro e w3 ⟨rfl, rfl⟩) | (at_builtin; refine halt ?_))
          first
          | (go_roundg gk
             case measure => omega
             case rel =>
               first
               | exact ⟨j + 1, 1, F, t, g, rfl, rfl, rfl, by rw [HK.out], by have := HJ.out; omega, by omega, ⟨line_first HST.out HRT.out HE.out⟩, HL2⟩
               | exact ⟨j + 1, 1, F, f, g, rfl, rfl, rfl, by rw [HK.out], by have := HJ.out; omega, by omega, ⟨line_pass HST.out HRT.out HE.out⟩, HL2⟩
               | exact ⟨j + 1, 2, F, f, t, rfl, rfl, rfl, by rw [HK.out], by have := HJ.out; omega, by omega, ⟨line_second HST.out HRT.out HE.out⟩, HL2⟩)
          | (refine Halt.go ?_
             refine print_append_num (w.heap.size + 1) (by rfl) _ _ _ 3 .i64 8 (by rfl) Try.underlying24 info_intZ (by omega) _ F (t : Int) (by rfl) (by rfl) HL2.out.own (Below.refl _ _) HL2.out.vw.lt (by have := HF9.out; omega) ?_
             intro v1 w4 hown hB hgrow hat
             have HL3 : Aside0 (LnAt w w4 s a x v1 (F ++ [(t : Int)])) := ⟨⟨HL2.out.vw.keep (by omega) hB, hown⟩⟩
             clear hown hB hgrow hat
             go_wp2_with fail
             go_roundg gk
             case measure => omega
             case rel => exact ⟨j + 1, 0, F ++ [(t : Int)], f, g, rfl, rfl, rfl, by rw [HK.out], by have := HJ.out; omega, by omega, ⟨line_free HST.out HRT.out HE.out⟩, HL3⟩)
end Go.Proofs.Ytcanbidenhcohaa.K

/- Walks: reach's lines, chariot, cannon, horse. -/
namespace Go.Proofs.Ytcanbidenhcohaa.K
open Go.RowKit Go.Lib Go.Proofs.YtcanbidenhcohaaW.PrintWords Go.Proofs.YtcanbidenhcohaaW.PrintLast Go.Proofs.YtcanbidenhcohaaW.PrintMore Go.Proofs.Ytcanbidenhcohaa.Sp
set_option linter.unusedVariables false
set_option linter.unusedSimpArgs false
attribute [local go_sem] cel_get   -- for this text's walks alone
/-- The four ways, as they lie in memory. -/
def dirC : List Value := [.int .i64 1, .int .i64 0, .int .i64 (-1), .int .i64 0, .int .i64 0, .int .i64 1, .int .i64 0, .int .i64 (-1)]
theorem dir_at : ∀ i, i < 4 → (dirs[i]?).isSome = true ∧ ∀ d, dirs[i]? = some d → d ∈ dirs ∧ dirC[i * 2]? = some (.int .i64 d.1) ∧ dirC[i * 2 + 1]? = some (.int .i64 d.2) := by
  intro i hi
  match i, hi with
  | 0, _ | 1, _ | 2, _ | 3, _ => exact ⟨rfl, fun d h => by cases h; exact ⟨by decide, rfl, rfl⟩⟩
theorem dirs_take (f : Int × Int → List Int) (i : Nat) (d : Int × Int) (h : dirs[i]? = some d) : (dirs.take (i + 1)).flatMap f = (dirs.take i).flatMap f ++ f d := by
  obtain ⟨hj, rfl⟩ := List.getElem?_eq_some_iff.1 h
  rw [List.take_succ_eq_append_getElem hj, List.flatMap_append]
  simp
/-- What the loops over the four ways keep. -/
structure DrAt (w0 W : World) (s : ByteArray) (a x : Nat) (g : Nat) (v : Value) (l : List Int) : Prop where
  vw : VwAt w0 W s a x
  dir : ∀ j c, dirC[j]? = some c → W.cell? ⟨g, j, none⟩ = some c
  dlt : w0.heap.size < g ∧ g < W.heap.size
  own : OwnZ W (g + 1) v l
theorem DrAt.keep {w0 W W' : World} {s : ByteArray} {a x : Nat} {g : Nat} {v v' : Value} {l l' : List Int} (h : DrAt w0 W s a x g v l) (hb : Below (g + 1) W W') (ho : OwnZ W' (g + 1) v' l') : DrAt w0 W' s a x g v' l' :=
  ⟨h.vw.keep (by have := h.dlt; omega) hb, fun j c hc => (hb.cell (p := ⟨g, j, none⟩) (by show g < g + 1; omega)).trans (h.dir j c hc), ⟨h.dlt.1, Nat.lt_of_lt_of_le h.dlt.2 hb.size⟩, ho⟩
theorem DrAt.below {w0 W W' : World} {s : ByteArray} {a x : Nat} {g : Nat} {v : Value} {l : List Int} (h : DrAt w0 W s a x g v l) (hb : Below W.heap.size W W') : DrAt w0 W' s a x g v l :=
  h.keep (hb.mono (by have := h.dlt; omega)) (h.own.below hb)
theorem dr_new (w : World) (s : ByteArray) (a x : Nat) : DrAt w ((w.alloc (.cells #[.string s, .int .i64 (a : Int), .int .u8 (x : Int)] 53)).alloc (.cells #[.int .i64 1, .int .i64 0, .int .i64 (-1), .int .i64 0, .int .i64 0, .int .i64 1, .int .i64 0, .int .i64 (-1)] 81)) s a x (w.heap.size + 1) (.slice none 0 0) [] := by
  refine ⟨(VwAt.new w s a x).below (below_alloc (Below.refl _ _) _), fun j c hc => ?_, ⟨by omega, by simp⟩, own_znil _ _⟩
  have hj : j < 8 := (List.getElem?_eq_some_iff.1 hc).1
  match j, hj with
  | 0, _ | 1, _ | 2, _ | 3, _ | 4, _ | 5, _ | 6, _ | 7, _ => cases hc; simp [World.cell?_alloc_at]
theorem flat_len (s : ByteArray) (a : Nat) (b : Bool) (h : ∀ d ∈ dirs, (lineAdd s a b d).length ≤ 10) (i : Nat) (hi : i ≤ 4) : ((dirs.take i).flatMap (lineAdd s a b)).length ≤ 40 := by
  have a0 := h (1, 0) (by decide); have a1 := h (-1, 0) (by decide); have a2 := h (0, 1) (by decide); have a3 := h (0, -1) (by decide)
  match i, hi with
  | 0, _ | 1, _ | 2, _ | 3, _ | 4, _ => simp only [dirs, List.take_succ_cons, List.take_zero, List.flatMap_cons, List.flatMap_nil, List.length_append, List.length_nil]; omega
set_option maxRecDepth 100000 in
set_option maxHeartbeats 4000000 in
theorem lines_c (s : ByteArray) (hs : s.size = 90) (a x : Nat) (ha : a < 90) (b : Bool) (w : World) : Calls Try.prog 95 #[vwV s a x, .bool b] w fun e w' => ∃ v, e = .returned v ∧ OwnZ w' w.heap.size v (dirs.flatMap (lineAdd s a b)) ∧ Below w.heap.size w w' := by
  have HLN := Aside0.mk (fun d hd W => line_c s hs a x ha d hd W)
  have HFL := Aside0.mk (fun d hd => free_len s a ha d hd)
  have HLL := Aside0.mk (fun d hd => lineAdd_len s a ha b d hd)
  have HB := Aside0.mk (VwAt.new w s a x)
  have hu := Try.underlying53
  clear hs ha
  go_enter Try.func95, Try.ntmps95
  go_wp2_with fail
  have HD := Aside0.mk (dr_new w s a x)
  generalize ((w.alloc (.cells #[.string s, .int .i64 (a : Int), .int .u8 (x : Int)] 53)).alloc (.cells #[.int .i64 1, .int .i64 0, .int .i64 (-1), .int .i64 0, .int .i64 0, .int .i64 1, .int .i64 0, .int .i64 (-1)] 81)) = W2 at *
  have HD := Aside0.mk (show DrAt w W2 s a x (w.heap.size + 1) (.slice none 0 0) ((dirs.take 0).flatMap (lineAdd s a b)) from HD.out)
  go_loopg [5, 7, 8, 9, 10, 17] 4 (fun gg s5 _ _ _ _ s17 wr => ∃ i : Nat, s17 = .int .i64 (i : Int) ∧ i + gg = 4 ∧ Aside0 (DrAt w wr s a x (w.heap.size + 1) s5 ((dirs.take i).flatMap (lineAdd s a b))))
  case atStart => exact ⟨0, rfl, by omega, HD⟩
  case round =>
    clear HD HB
    obtain ⟨i, rfl, hi, HD⟩ := hrel
    cases gk with
    | zero =>
      have hn : ¬ ((i : Int) < 4) := by omega
      have HI := Aside0.mk (show i = 4 by omega)
      clear hi
      go_wp2_with fail
      go_ret
      refine ⟨_, rfl, ?_, HD.out.vw.bel⟩
      have := HD.out.own.lower (B' := w.heap.size) (by omega)
      rw [HI.out] at this
      exact this
    | succ gk =>
      have hn : (i : Int) < 4 := by omega
      have hib : 0 ≤ (i : Int) := by omega
      have HI := Aside0.mk (show i + 1 + gk = 4 by omega)
      obtain ⟨hs1, hs2⟩ := dir_at i (by omega)
      obtain ⟨d, hd⟩ := Option.isSome_iff_exists.1 hs1
      obtain ⟨hm, k0, k1⟩ := hs2 d hd
      have x0 := HD.out.dir _ _ k0
      have x1 := HD.out.dir _ _ k1
      have HLN1 := Aside0.mk (fun W => HLN.out d hm W)
      have HST := Aside0.mk (dirs_take (lineAdd s a b) i d hd)
      have HF9 := Aside0.mk (HFL.out d hm)
      have HAL := Aside0.mk (show ((dirs.take i).flatMap (lineAdd s a b)).length ≤ 40 from flat_len s a b HLL.out i (by omega))
      have HLA := Aside0.mk (show lineAdd s a b d = ints (freeL s a d) ++ [if b = true then secondZ s a d else firstZ s a d] from rfl)
      generalize (dirs.take i).flatMap (lineAdd s a b) = acc at *
      generalize firstZ s a d = z1 at *
      generalize secondZ s a d = z2 at *
      generalize freeL s a d = fl at *
      generalize lineAdd s a b d = la at *
      obtain ⟨d1, d2⟩ := d
      simp only at x0 x1 HLN1
      clear hi hs1 hs2 hd hm k0 k1
      obtain ⟨c0, c1, c2, _⟩ := HD.out.vw
      have hl0 : w.heap.size < wr.heap.size := HD.out.vw.lt
      have hl1 : w.heap.size + 1 < wr.heap.size := HD.out.dlt.2
      have HD1 := Aside0.mk (HD.out.below (below_alloc (Below.refl _ _) (.cells #[.int .i64 d1, .int .i64 d2] 81)))
      go_wp2_with fail
      refine (HLN1.out _).mono ?_
      rintro e w2 ⟨v, rfl, h1, hb⟩
      have HD2 := Aside0.mk (HD1.out.below hb)
      have HO2 := Aside0.mk h1
      have HLF := Aside0.mk (show (ints fl).length ≤ 9 by simp [ints]; exact HF9.out)
      generalize ints fl = fl' at *
      obtain ⟨A, cap, rfl⟩ := HO2.out.form
      clear h1 hb HD HD1 c0 c1 c2 hl0 hl1 x0 x1
      go_wp2_with (at_builtin; refine halt ?_)
      refine Halt.go ?_
      refine print_append_row (w.heap.size + 1 + 1) (by rfl) _ _ _ 3 .i64 8 (by rfl) Try.underlying24 info_intZ (by omega) _ acc fl' A fl'.length cap (by rfl) (by rfl) HD2.out.own (own_reads' HO2.out) (Below.refl _ _) HD2.out.dlt.2 (by have := HAL.out; have := HLF.out; omega) ?_
      intro v1 w3 hown hB hgrow hat
      have HD3 := Aside0.mk (HD2.out.keep hB hown)
      have HL3 := Aside0.mk (show (acc ++ fl').length ≤ 49 by rw [List.length_append]; have := HAL.out; have := HLF.out; omega)
      clear hown hB hgrow hat HD2 HO2
      cases b
      all_goals
        go_wp2_with (at_builtin; refine halt ?_)
        refine Halt.go ?_
        refine print_append_num (w.heap.size + 1 + 1) (by rfl) _ _ _ 3 .i64 8 (by rfl) Try.underlying24 info_intZ (by omega) _ (acc ++ fl') _ (by rfl) (by rfl) HD3.out.own (Below.refl _ _) HD3.out.dlt.2 (by have := HL3.out; omega) ?_
        intro v2 w4 hown hB hgrow hat
        have HD4 := Aside0.mk (HD3.out.keep hB hown)
        clear hown hB hgrow hat HD3
        go_wp2_with fail
        go_roundg gk
        case measure => omega
        case rel =>
          refine ⟨i + 1, by go_num, by have := HI.out; omega, ⟨?_⟩⟩
          rw [HST.out, HLA.out, ← List.append_assoc]
          exact HD4.out
end Go.Proofs.Ytcanbidenhcohaa.K

/- Walks: reach's pawn, allowed, general, advisor, elephant. -/
namespace Go.Proofs.Ytcanbidenhcohaa.K
open Go.RowKit Go.Lib Go.Proofs.YtcanbidenhcohaaW.PrintWords Go.Proofs.YtcanbidenhcohaaW.PrintLast Go.Proofs.YtcanbidenhcohaaW.PrintMore Go.Proofs.Ytcanbidenhcohaa.Sp
set_option linter.unusedVariables false
set_option linter.unusedSimpArgs false
attribute [local go_sem] cel_get   -- for this text's walks alone
/-! ### allowed -/
theorem allowed_closure (x : Nat) (hx : x < 256) (y : Int) (B : Nat) (W : World) (hc : W.cell? ⟨B, 2, none⟩ = some (.int .u8 (x : Int))) :
    Calls Try.prog 113 (#[.int .i64 y] ++ #[.pointer (some ⟨B, 0, none⟩)]) W fun e W' => e = .returned (.bool (!(mayZ x y))) ∧ Below W.heap.size W W' := by
  have HM := Aside0.mk (fun W => may_c x hx y W)
  rw [mayS_eq] at HM
  show Calls Try.prog 113 #[.int .i64 y, .pointer (some ⟨B, 0, none⟩)] W _
  go_enter Try.func113, Try.ntmps113
  go_wp2_with (go_at_call 28; refine (HM.out _).mono ?_; rintro e w' ⟨rfl, hb⟩)
  go_ret
  exact ⟨rfl, hb⟩
theorem blk_of_cells {w : World} {o : Obj} {W : World} {b : Nat} (hk : KeepBut (w.alloc o) W b none) (hb : b ≠ w.heap.size) : W.heap[w.heap.size]? = some o := hk.blk (blk_new w o) (fun h => hb h.symm) (by simp)
set_option maxHeartbeats 1000000 in
theorem allowed_c (s : ByteArray) (a x : Nat) (hx : x < 256) (B : Nat) (v : Value) (l : List Int) (w : World) (hB : B ≤ w.heap.size) (ho : OwnZ w B v l) :
    Calls Try.prog 90 #[vwV s a x, v] w fun e w' => ∃ v', e = .returned v' ∧ OwnZ w' B v' (l.filter (mayZ x)) ∧ Below B w w' := by
  have hfil : (l.filter fun y => !(fun y => !(mayZ x y)) y) = l.filter (mayZ x) := by congr 1; funext y; simp
  have hD := del_Z 113 #[.pointer (some ⟨w.heap.size, 0, none⟩)] (fun y => !(mayZ x y)) (enters_of Try.func113 (by kernel_rfl) rfl) B v l (w.alloc (.cells #[.string s, .int .i64 (a : Int), .int .u8 (x : Int)] 53)) (by simp; omega) (ho.below (below_alloc (Below.refl _ _) _)) (by
    intro b _ _ hob W y hy hk
    have hlt := (ho.lt b hob).2
    have hblk := blk_of_cells hk (by omega)
    have hcell : W.cell? ⟨w.heap.size, 2, none⟩ = some (.int .u8 (x : Int)) := (blk_cell hblk 2).trans rfl
    exact allowed_closure x hx y _ W hcell)
  rw [hfil] at hD
  have HD := Aside0.mk hD
  have hu := Try.underlying53
  have HB0 := Aside0.mk hB
  clear hD hfil ho hB
  go_enter Try.func90, Try.ntmps90
  go_wp2_with (go_at_call 41; refine HD.out.mono ?_; rintro e w' ⟨v', rfl, h1, h2⟩)
  go_ret
  exact ⟨_, rfl, h1, ((below_alloc (Below.refl _ _) _).mono HB0.out).trans h2⟩
/-! ### general, advisor, elephant -/
theorem own_ints {W : World} {B : Nat} {v : Value} {l : List Int} (h : OwnZ W B v l) (hl : 0 < l.length) : ∃ g cap, v = .slice (some ⟨g, 0, none⟩) l.length cap ∧ B ≤ g ∧ g < W.heap.size ∧ ∀ j u, (nums .i64 l)[j]? = some u → W.cell? ((⟨g, 0, none⟩ : Addr).add j) = some u := by
  obtain ⟨g, cap, rfl, hb, hg⟩ := World.ownsRow.form h hl
  exact ⟨g, cap, rfl, hb, hg, fun j u hu => World.ownsRow.cells h (g := g) rfl j u hu⟩
set_option maxRecDepth 100000 in
set_option maxHeartbeats 4000000 in
theorem general_c (s : ByteArray) (a x : Nat) (ha : a < 90) (hx : x < 256) (w : World) : Calls Try.prog 70 #[vwV s a x] w fun e w' => ∃ v, e = .returned v ∧ OwnZ w' w.heap.size v ((kingL a).filter (mayZ x)) ∧ Below w.heap.size w w' := by
  have HF1 := Aside0.mk (fun W => four_c s a x ha 1 0 (by omega) (by omega) W)
  have HF2 := Aside0.mk (fun W => four_c s a x ha 0 1 (by omega) (by omega) W)
  have HAL := Aside0.mk (fun (v : Value) (W : World) (h1 : w.heap.size + 1 ≤ W.heap.size) (h2 : OwnZ W (w.heap.size + 1) v (kingL a)) => allowed_c s a x hx (w.heap.size + 1) v (kingL a) W h1 h2)
  have HK := Aside0.mk (show fourZ a 1 0 ++ fourZ a 0 1 = kingL a from rfl)
  have hn1 := Aside0.mk (show (fourZ a 1 0).length = 4 from rfl)
  have hn2 := Aside0.mk (show (fourZ a 0 1).length = 4 from rfl)
  obtain ⟨i0, hi0, hx0⟩ := Option.map_eq_some_iff.1 info_intZ
  simp only [Prod.mk.injEq] at hx0
  have HZ := Aside0.mk (⟨hi0, hx0⟩ : _ ∧ _)
  clear hx0 hi0
  generalize fourZ a 1 0 = l1 at *
  generalize fourZ a 0 1 = l2 at *
  have HB := Aside0.mk (VwAt.new w s a x)
  have hu := Try.underlying53
  clear ha hx
  go_enter Try.func70, Try.ntmps70
  go_wp2_with fail
  generalize w.alloc (.cells #[.string s, .int .i64 (a : Int), .int .u8 (x : Int)] 53) = W1 at *
  have HA := Aside0.mk HB.out.drew
  obtain ⟨c0, c1, c2, _⟩ := HB.out
  go_region_held3 (fun W => W.cell? ⟨w.heap.size, 0, none⟩ = some (.string s) ∧ W.cell? ⟨w.heap.size, 1, none⟩ = some (.int .i64 (a : Int)) ∧ W.cell? ⟨w.heap.size, 2, none⟩ = some (.int .u8 (x : Int))) (go_keep)
    (first
      | (go_at_call 91; (with_reducible refine (HF1.out _).mono ?_); rintro e w2 ⟨v1, rfl, h1, hb⟩; have HV1 := Aside0.mk (h1.lower (show w.heap.size + 1 ≤ _ from HA.out.lt)); have HA2 := Aside0.mk (HA.out.below hb); clear HA h1 hb c0 c1 c2; obtain ⟨c0, c1, c2, _⟩ := HA2.out)
      | (go_at_call 91; (with_reducible refine (HF2.out _).mono ?_); rintro e w3 ⟨v2, rfl, h1, hb⟩; have HV2 := Aside0.mk (h1.lower (show w.heap.size + 1 ≤ _ from HA2.out.lt)); have HV1' := Aside0.mk (HV1.out.below hb); have HA3 := Aside0.mk (HA2.out.below hb); clear HA2 HV1 h1 hb c0 c1 c2; obtain ⟨c0, c1, c2, _⟩ := HA3.out; obtain ⟨g2, cap2, rfl, hg2, hg2', hn2'⟩ := own_ints HV2.out (by rw [hn2.out]; omega); rw [hn2.out])
      | (refine step_append_lies _ (by rfl) _ _ _ (by rfl) (w.heap.size + 1) 3 i0 _ 1 8 Try.underlying24 HZ.out.1 HZ.out.2.1 HZ.out.2.2.1 HZ.out.2.2.2 rfl (by omega) _ l1.length (nums .i64 l1) (by rfl) HV1'.out ⟨g2, 0, none⟩ 4 cap2 (nums .i64 l2) (by rfl) (by rw [nums_length, hn2.out]) hn2' (fun u hu => by obtain ⟨z, _, rfl⟩ := List.mem_map.1 hu; rfl) (by omega) (by rw [hn1.out]; unfold maxLen; omega) (by rw [hn1.out]; omega) (by have := HA3.out.lt; omega) _ rfl ?_; intro gg cap1 w4 hown1 hgrow hat hlt; have HB4 := (Below.refl (w.heap.size + 1) _).grown hgrow HA3.out.lt (fun k hk => (HV1'.out.lt k hk).1); have HA4 := Aside0.mk (HA3.out.keep (by omega) HB4); have HV4 : Aside0 (OwnZ w4 (w.heap.size + 1) (.slice (some ⟨gg, 0, none⟩) (l1.length + 4) cap1) (kingL a)) := ⟨by unfold OwnZ; rw [← HK.out, List.length_append, hn2.out, nums_append]; exact hown1⟩; clear HA3 HB4 hown1 hgrow hat hlt hn2' c0 c1 c2; obtain ⟨c0, c1, c2, _⟩ := HA4.out)
      | (go_at_call 90; refine (HAL.out _ _ HA4.out.lt HV4.out).mono ?_; rintro e w5 ⟨v5, rfl, h1, hb⟩; have HA5 := Aside0.mk (HA4.out.keep (by omega) hb); have HV5 := Aside0.mk h1; clear h1 hb HA4 c0 c1 c2; obtain ⟨c0, c1, c2, _⟩ := HA5.out))
  all_goals
    go_wp2_with fail
    go_ret
    exact ⟨_, rfl, HV5.out.lower (by omega), HA5.out.bel⟩
set_option maxRecDepth 100000 in
set_option maxHeartbeats 4000000 in
theorem vadvisor_c (s : ByteArray) (a x : Nat) (ha : a < 90) (hx : x < 256) (w : World) : Calls Try.prog 71 #[vwV s a x] w fun e w' => ∃ v, e = .returned v ∧ OwnZ w' w.heap.size v ((fourL a 1).filter (mayZ x)) ∧ Below w.heap.size w w' := by
  have HF1 := Aside0.mk (fun W => four_c s a x ha 1 1 (by omega) (by omega) W)
  have HAL := Aside0.mk (fun (v : Value) (W : World) (h1 : w.heap.size + 1 ≤ W.heap.size) (h2 : OwnZ W (w.heap.size + 1) v (fourL a 1)) => allowed_c s a x hx (w.heap.size + 1) v (fourL a 1) W h1 h2)
  rw [show fourZ a 1 1 = fourL a 1 from rfl] at HF1
  generalize fourL a 1 = l1 at *
  have HB := Aside0.mk (VwAt.new w s a x)
  have hu := Try.underlying53
  clear ha hx
  go_enter Try.func71, Try.ntmps71
  go_wp2_with fail
  generalize w.alloc (.cells #[.string s, .int .i64 (a : Int), .int .u8 (x : Int)] 53) = W1 at *
  have HA := Aside0.mk HB.out.drew
  obtain ⟨c0, c1, c2, _⟩ := HB.out
  go_region_held3 (fun W => W.cell? ⟨w.heap.size, 0, none⟩ = some (.string s) ∧ W.cell? ⟨w.heap.size, 1, none⟩ = some (.int .i64 (a : Int)) ∧ W.cell? ⟨w.heap.size, 2, none⟩ = some (.int .u8 (x : Int))) (go_keep)
    (first
      | (go_at_call 91; (with_reducible refine (HF1.out _).mono ?_); rintro e w2 ⟨v1, rfl, h1, hb⟩; have HV1 := Aside0.mk (h1.lower (show w.heap.size + 1 ≤ _ from HA.out.lt)); have HA2 := Aside0.mk (HA.out.below hb); clear HA h1 hb c0 c1 c2; obtain ⟨c0, c1, c2, _⟩ := HA2.out)
      | (go_at_call 90; refine (HAL.out _ _ HA2.out.lt HV1.out).mono ?_; rintro e w5 ⟨v5, rfl, h1, hb⟩; have HA5 := Aside0.mk (HA2.out.keep (by omega) hb); have HV5 := Aside0.mk h1; clear h1 hb HA2 c0 c1 c2; obtain ⟨c0, c1, c2, _⟩ := HA5.out))
  all_goals
    go_wp2_with fail
    go_ret
    exact ⟨_, rfl, HV5.out.lower (by omega), HA5.out.bel⟩
theorem elephant_closure (s : ByteArray) (hs : s.size = 90) (a x : Nat) (ha : a < 90) (y : Int) (hy : 0 ≤ y ∧ y < 90) (B : Nat) (W : World) (c0 : W.cell? ⟨B, 0, none⟩ = some (.string s)) (c1 : W.cell? ⟨B, 1, none⟩ = some (.int .i64 (a : Int))) (c2 : W.cell? ⟨B, 2, none⟩ = some (.int .u8 (x : Int))) :
    Calls Try.prog 92 (#[.int .i64 y] ++ #[.pointer (some ⟨B, 0, none⟩)]) W fun e W' => e = .returned (.bool (!(emptyZ s (halfZ a y)))) ∧ Below W.heap.size W W' := by
  have HM := Aside0.mk (fun n W => empty_c s hs a x n W)
  obtain ⟨t, rfl⟩ : ∃ t : Nat, y = t := ⟨y.toNat, by omega⟩
  have h1 := half_at a t
  have h2 : ((a : Int) + (t : Int)) / 2 = (((a + t) / 2 : Nat) : Int) := by omega
  rw [h1]
  have a0 : 0 ≤ (a : Int) := by omega
  have a1 : (a : Int) < 90 := by omega
  have t0 : 0 ≤ (t : Int) := by omega
  have t1 : (t : Int) < 90 := by omega
  generalize (((a + t) / 2 : Nat) : Int) = z at *
  have hu := Try.underlying53
  clear h1 hs hy ha
  show Calls Try.prog 92 #[.int .i64 (t : Int), .pointer (some ⟨B, 0, none⟩)] W _
  go_enter Try.func92, Try.ntmps92
  go_wp2_with (go_at_call 93; refine (HM.out _ _).mono ?_; rintro e w' ⟨rfl, hb⟩)
  go_ret
  exact ⟨rfl, hb⟩
set_option maxRecDepth 100000 in
set_option maxHeartbeats 4000000 in
theorem velephant_c (s : ByteArray) (hs : s.size = 90) (a x : Nat) (ha : a < 90) (hx : x < 256) (w : World) : Calls Try.prog 72 #[vwV s a x] w fun e w' => ∃ v, e = .returned v ∧ OwnZ w' w.heap.size v (((fourL a 2).filter (mayZ x)).filter (fun y => emptyZ s (halfZ a y))) ∧ Below w.heap.size w w' := by
  have HF1 := Aside0.mk (fun W => four_c s a x ha 2 2 (by omega) (by omega) W)
  have HAL := Aside0.mk (fun (v : Value) (W : World) (h1 : w.heap.size + 1 ≤ W.heap.size) (h2 : OwnZ W (w.heap.size + 1) v (fourL a 2)) => allowed_c s a x hx (w.heap.size + 1) v (fourL a 2) W h1 h2)
  rw [show fourZ a 2 2 = fourL a 2 from rfl] at HF1
  have hrg := range_may x (fourL a 2)
  generalize fourL a 2 = l1 at *
  have HD := Aside0.mk (show ∀ (W : World) (v : Value), VwAt w W s a x → OwnZ W (w.heap.size + 1) v (l1.filter (mayZ x)) →
      Calls Try.prog 41 #[v, .func (.func 92) #[] #[.pointer (some ⟨w.heap.size, 0, none⟩)]] W fun e w' => ∃ v', e = .returned v' ∧ OwnZ w' (w.heap.size + 1) v' ((l1.filter (mayZ x)).filter (fun y => emptyZ s (halfZ a y))) ∧ Below (w.heap.size + 1) W w' from by
    intro W v hV hO
    have hfil : ((l1.filter (mayZ x)).filter fun y => !(fun y => !(emptyZ s (halfZ a y))) y) = (l1.filter (mayZ x)).filter (fun y => emptyZ s (halfZ a y)) := by congr 1; funext y; simp
    have hD := del_Z 92 #[.pointer (some ⟨w.heap.size, 0, none⟩)] (fun y => !(emptyZ s (halfZ a y))) (enters_of Try.func92 (by kernel_rfl) rfl) (w.heap.size + 1) v _ W hV.lt hO (by
      intro b hb _ _ W2 y hy hk
      have hcell : ∀ o, W2.cell? ⟨w.heap.size, o, none⟩ = W.cell? ⟨w.heap.size, o, none⟩ := fun o => by
        have := hk.2 w.heap.size hV.lt (by omega) (by simp)
        unfold World.cell?; simp only [this]
      exact elephant_closure s hs a x ha y (hrg y hy) _ W2 ((hcell 0).trans hV.c0) ((hcell 1).trans hV.c1) ((hcell 2).trans hV.c2))
    rw [hfil] at hD
    exact hD)
  have HB := Aside0.mk (VwAt.new w s a x)
  have hu := Try.underlying53
  clear ha hx hs hrg
  go_enter Try.func72, Try.ntmps72
  go_wp2_with fail
  generalize w.alloc (.cells #[.string s, .int .i64 (a : Int), .int .u8 (x : Int)] 53) = W1 at *
  have HA := Aside0.mk HB.out.drew
  obtain ⟨c0, c1, c2, _⟩ := HB.out
  go_region_held3 (fun W => W.cell? ⟨w.heap.size, 0, none⟩ = some (.string s) ∧ W.cell? ⟨w.heap.size, 1, none⟩ = some (.int .i64 (a : Int)) ∧ W.cell? ⟨w.heap.size, 2, none⟩ = some (.int .u8 (x : Int))) (go_keep)
    (first
      | (go_at_call 91; (with_reducible refine (HF1.out _).mono ?_); rintro e w2 ⟨v1, rfl, h1, hb⟩; have HV1 := Aside0.mk (h1.lower (show w.heap.size + 1 ≤ _ from HA.out.lt)); have HA2 := Aside0.mk (HA.out.below hb); clear HA h1 hb c0 c1 c2; obtain ⟨c0, c1, c2, _⟩ := HA2.out)
      | (go_at_call 90; refine (HAL.out _ _ HA2.out.lt HV1.out).mono ?_; rintro e w5 ⟨v5, rfl, h1, hb⟩; have HA5 := Aside0.mk (HA2.out.keep (by omega) hb); have HV5 := Aside0.mk h1; clear h1 hb HA2 c0 c1 c2; obtain ⟨c0, c1, c2, _⟩ := HA5.out)
      | (go_at_call 41; refine (HD.out _ _ HA5.out HV5.out).mono ?_; rintro e w6 ⟨v6, rfl, h1, hb⟩; have HA6 := Aside0.mk (HA5.out.keep (by omega) hb); have HV6 := Aside0.mk h1; clear h1 hb HA5 c0 c1 c2; obtain ⟨c0, c1, c2, _⟩ := HA6.out))
  all_goals
    go_wp2_with fail
    go_ret
    exact ⟨_, rfl, HV6.out.lower (by omega), HA6.out.bel⟩
/-! ### the pawn -/
set_option maxRecDepth 100000 in
set_option maxHeartbeats 4000000 in
theorem vpawn_c (s : ByteArray) (a x : Nat) (ha : a < 90) (hx : x < 256) (h0 : 0 ≤ sideN x) (w : World) : Calls Try.prog 76 #[vwV s a x] w fun e w' => ∃ v, e = .returned v ∧ OwnZ w' w.heap.size v (pawnL (sideN x) a) ∧ Below w.heap.size w w' := by
  have HS := Aside0.mk (fun (f r : Int) (h1 : -60 ≤ f ∧ f ≤ 60) (h2 : -60 ≤ r ∧ r ≤ 60) (W : World) => step_c s a x ha f r h1 h2 W)
  have HSD := Aside0.mk (fun W => side_c x hx W)
  have HOV := Aside0.mk (fun W => Over_c (a : Int) (sideN x) W)
  have hov : overS (a : Int) (sideN x) = overN a (sideN x) := by
    unfold overS
    rw [decide_eq_true ⟨by omega, by omega, side01 h0⟩, Bool.true_and]; rfl
  rw [hov] at HOV
  have hs1 : sideN x = 0 ∨ sideN x = 1 := side01 h0
  unfold pawnL
  generalize sideN x = sd at *
  have s0 : 0 ≤ sd := h0
  have s1 : sd ≤ 1 := by omega
  obtain ⟨i0, hi0, hx0⟩ := Option.map_eq_some_iff.1 info_intZ
  simp only [Prod.mk.injEq] at hx0
  have HZ := Aside0.mk (⟨hi0, hx0⟩ : _ ∧ _)
  have HB := Aside0.mk (VwAt.new w s a x)
  have hu := Try.underlying53
  clear hx0 hi0 ha hx hov hs1 h0
  have HW := Aside0.mk (And.intro s0 s1)
  generalize hz0 : stepN a 0 (1 - 2 * sd) = z0 at *
  have HZ0 := Aside0.mk hz0
  clear hz0
  cases ho : overN a sd
  all_goals
    rw [ho] at HOV
    go_enter Try.func76, Try.ntmps76
    go_wp2_with (first | (go_at_call 22; refine (HSD.out _).mono ?_; rintro e w2 ⟨rfl, rfl⟩) | fail)
    refine (HS.out _ _ (by omega) (by omega) _).mono ?_
    rintro e w2 ⟨rfl, hb⟩
    have HA2 := Aside0.mk (HB.out.below hb)
    clear hb HB
    obtain ⟨c0, c1, c2, _⟩ := HA2.out
    rw [HZ0.out]
    have hlw : w.heap.size < w2.heap.size := HA2.out.lt
    go_wp2_with fail
    refine (HOV.out _).mono ?_
    rintro e w3 ⟨rfl, hb⟩
    have HV3 := Aside0.mk ((own_znew w2 (w.heap.size + 1) [z0] HA2.out.lt (by simp [maxLen])).below hb)
    have HA3 := Aside0.mk ((HA2.out.below (below_alloc (Below.refl _ _) _)).below hb)
    clear hb HA2 c0 c1 c2 hlw
    obtain ⟨c0, c1, c2, _⟩ := HA3.out
    generalize w2.heap.size = bg at *
  · go_wp2_with fail
    go_ret
    exact ⟨_, rfl, HV3.out.lower (by omega), HA3.out.bel⟩
  · go_wp2_with fail
    have HA := Aside0.mk HA3.out.drew
    have HV := Aside0.mk (HV3.out.below (pw_below_drewN (Below.refl _ _) 1) : OwnZ w3.drew _ _ _)
    clear HA3 HV3
    go_region_held3 (fun W => W.cell? ⟨w.heap.size, 0, none⟩ = some (.string s) ∧ W.cell? ⟨w.heap.size, 1, none⟩ = some (.int .i64 (a : Int)) ∧ W.cell? ⟨w.heap.size, 2, none⟩ = some (.int .u8 (x : Int))) (go_keep)
      (first
        | (go_at_call 94; refine (HS.out _ _ (by omega) (by omega) _).mono ?_; rintro e w5 ⟨rfl, hb⟩; have HAn := Aside0.mk (HA.out.below hb); have HVn := Aside0.mk (HV.out.below hb); clear HA HV hb c0 c1 c2; have HA := HAn; have HV := HVn; clear HAn HVn; obtain ⟨c0, c1, c2, _⟩ := HA.out)
        | (refine step_append_lies _ (by rfl) _ _ _ (by rfl) (w.heap.size + 1) 3 i0 _ 1 8 Try.underlying24 HZ.out.1 HZ.out.2.1 HZ.out.2.2.1 HZ.out.2.2.2 rfl (by omega) _ 1 (nums .i64 [z0]) (by rfl) (HV.out.below (below_alloc (Below.refl _ _) _)) ⟨_, 0, none⟩ 2 2 (nums .i64 [stepN a 1 0, stepN a (-1) 0]) (by rfl) (by rfl) (World.news_of_block (cs := #[.int .i64 (stepN a 1 0), .int .i64 (stepN a (-1) 0)]) (t := 3) (fr := (0, 0)) (heap_alloc_new _ _)) (fun u hu => by obtain ⟨z, _, rfl⟩ := List.mem_map.1 hu; rfl) (by omega) (by unfold maxLen; omega) (by omega) (by have := HA.out.lt; simp; omega) _ rfl ?_; intro gg cap1 w7 hown1 hgrow hat hlt; have HB7 := (Below.refl (w.heap.size + 1) _).grown hgrow (by have := HA.out.lt; simp; omega) (fun k hk => (HV.out.lt k hk).1); have HA7 := Aside0.mk ((HA.out.below (below_alloc (Below.refl _ _) _)).keep (by omega) HB7); have HV7 : Aside0 (OwnZ w7 (w.heap.size + 1) (.slice (some ⟨gg, 0, none⟩) 3 cap1) [z0, stepN a 1 0, stepN a (-1) 0]) := ⟨hown1⟩; clear HA HV HB7 hown1 hgrow hat hlt c0 c1 c2; obtain ⟨c0, c1, c2, _⟩ := HA7.out))
    all_goals
      go_wp2_with fail
      go_ret
      exact ⟨_, rfl, HV7.out.lower (by omega), HA7.out.bel⟩
end Go.Proofs.Ytcanbidenhcohaa.K

/- Walks: reach's horse, chariot, cannon, way. -/
namespace Go.Proofs.Ytcanbidenhcohaa.K
open Go.RowKit Go.Lib Go.Proofs.YtcanbidenhcohaaW.PrintWords Go.Proofs.YtcanbidenhcohaaW.PrintLast Go.Proofs.YtcanbidenhcohaaW.PrintMore Go.Proofs.Ytcanbidenhcohaa.Sp
set_option linter.unusedVariables false
set_option linter.unusedSimpArgs false
attribute [local go_sem] cel_get   -- for this text's walks alone
/-- What a round of the horse keeps. -/
structure HsAt (w0 W : World) (s : ByteArray) (a x g : Nat) (v : Value) (l : List Int) (bw : Nat) (d1 d2 : Int) : Prop where
  dr : DrAt w0 W s a x g v l
  b0 : W.cell? ⟨bw, 0, none⟩ = some (.int .i64 d1)
  b1 : W.cell? ⟨bw, 1, none⟩ = some (.int .i64 d2)
  far : ∀ k, v.ownBlock = some k → k ≠ bw
theorem HsAt.below {w0 W W' : World} {s : ByteArray} {a x g : Nat} {v : Value} {l : List Int} {bw : Nat} {d1 d2 : Int} (h : HsAt w0 W s a x g v l bw d1 d2) (hb : Below W.heap.size W W') : HsAt w0 W' s a x g v l bw d1 d2 :=
  ⟨h.dr.below hb, (hb.cell (p := ⟨bw, 0, none⟩) (World.block_lt_of_cell? W _ h.b0)).trans h.b0, (hb.cell (p := ⟨bw, 1, none⟩) (World.block_lt_of_cell? W _ h.b1)).trans h.b1, h.far⟩
theorem HsAt.drew {w0 W : World} {s : ByteArray} {a x g : Nat} {v : Value} {l : List Int} {bw : Nat} {d1 d2 : Int} (h : HsAt w0 W s a x g v l bw d1 d2) : HsAt w0 W.drew s a x g v l bw d1 d2 := h.below (pw_below_drewN (Below.refl _ _) 1)
theorem HsAt.new {w0 W : World} {s : ByteArray} {a x g : Nat} {v : Value} {l : List Int} (h : DrAt w0 W s a x g v l) (d1 d2 : Int) : HsAt w0 (W.alloc (.cells #[.int .i64 d1, .int .i64 d2] 81)) s a x g v l W.heap.size d1 d2 :=
  ⟨h.below (below_alloc (Below.refl _ _) _), by simp [World.cell?_alloc_at], by simp [World.cell?_alloc_at], fun k hk => by have := (h.own.lt k hk).2; omega⟩
/-- Two numbers are appended, in a region. -/
theorem step_app2 {ops : Array Oper} {o : Oper} {a : Act} {K : Act → World → Prop} {Q : Exit → Act → World → Prop} {E : Prop} (W : World) (hgd : o.guard = none) (s x : Operand)
    (ho : o.op = .call { callee := .builtin .append, args := #[s, x], argTypes := #[24, 24] }) (base : Nat) (v : Value) (xs : List Int) (y1 y2 : Int) (hs : a.eval s = v) (hx : a.eval x = .slice (some ⟨W.heap.size, 0, none⟩) 2 2)
    (hown : OwnZ W base v xs) (hlen : xs.length ≤ 8) (hbase : base ≤ W.heap.size)
    (h : ∀ g cap w', w'.ownsRow base 3 1 (.slice (some ⟨g, 0, none⟩) (xs.length + 2) cap) (xs.length + 2) (nums .i64 xs ++ nums .i64 [y1, y2]) → (W.alloc (.cells #[.int .i64 y1, .int .i64 y2] 3)).grownBy w' v.ownBlock → K (a.put o.dst (.slice (some ⟨g, 0, none⟩) (xs.length + 2) cap)) w') :
    if Region.wanted o (yielded ops a.tmps) = true then Oper.wp Try.prog o a (W.alloc (.cells #[.int .i64 y1, .int .i64 y2] 3)) K Q else E := by
  obtain ⟨i0, hi0, hx0⟩ := Option.map_eq_some_iff.1 info_intZ
  simp only [Prod.mk.injEq] at hx0
  exact step_append_lies _ hgd s x _ ho base 3 i0 _ 1 8 Try.underlying24 hi0 hx0.1 hx0.2.1 hx0.2.2 rfl (by omega) v xs.length (nums .i64 xs) hs (OwnZ.below hown (below_alloc (Below.refl _ _) _)) ⟨W.heap.size, 0, none⟩ 2 2 (nums .i64 [y1, y2]) hx rfl
    (World.news_of_block (cs := #[.int .i64 y1, .int .i64 y2]) (t := 3) (fr := (0, 0)) (heap_alloc_new _ _)) (fun u hu => by obtain ⟨z, _, rfl⟩ := List.mem_map.1 hu; rfl) (by omega) (by unfold maxLen; omega) (by omega) (by simp; omega) _ rfl
    (fun g cap w' h1 h2 _ _ => h g cap w' h1 h2)
theorem HsAt.appended {w0 W W' : World} {s : ByteArray} {a x g : Nat} {v : Value} {l : List Int} {bw : Nat} {d1 d2 : Int} (h : HsAt w0 W s a x g v l bw d1 d2) (o : Obj) (hg : (W.alloc o).grownBy W' v.ownBlock) (v' : Value) (ys : List Int) (hy : ys.length = 2) (ho : W'.ownsRow (g + 1) 3 1 v' (l.length + 2) (nums .i64 l ++ nums .i64 ys)) :
    DrAt w0 W' s a x g v' (l ++ ys) ∧ W'.cell? ⟨bw, 0, none⟩ = some (.int .i64 d1) ∧ W'.cell? ⟨bw, 1, none⟩ = some (.int .i64 d2) := by
  have h1 := h.below (below_alloc (Below.refl _ _) o)
  have hlt : bw < (W.alloc o).heap.size := World.block_lt_of_cell? _ _ h1.b0
  have hne : some bw ≠ v.ownBlock := fun he => h.far bw he.symm rfl
  have hz : g + 1 ≤ (W.alloc o).heap.size := h1.dr.dlt.2
  have HB7 := (Below.refl (g + 1) _).grown hg hz (fun k hk => (h.dr.own.lt k hk).1)
  refine ⟨h1.dr.keep HB7 ?_, (hg.cell_far ⟨bw, 0, none⟩ hlt hne).trans h1.b0, (hg.cell_far ⟨bw, 1, none⟩ hlt hne).trans h1.b1⟩
  unfold OwnZ
  rw [List.length_append, nums_append, hy]
  exact ho
theorem horse_len (s : ByteArray) (a : Nat) (i : Nat) (hi : i ≤ 4) : ((dirs.take i).flatMap (horseAdd s a)).length ≤ 8 := by
  have h2 : ∀ w, (horseAdd s a w).length ≤ 2 := fun w => by unfold horseAdd; split <;> simp [horseL]
  have a0 := h2 (1, 0); have a1 := h2 (-1, 0); have a2 := h2 (0, 1); have a3 := h2 (0, -1)
  match i, hi with
  | 0, _ | 1, _ | 2, _ | 3, _ | 4, _ => simp only [dirs, List.take_succ_cons, List.take_zero, List.flatMap_cons, List.flatMap_nil, List.length_append, List.length_nil]; omega
set_option maxRecDepth 100000 in
set_option maxHeartbeats 4000000 in
theorem vhorse_c (s : ByteArray) (hs : s.size = 90) (a x : Nat) (ha : a < 90) (w : World) : Calls Try.prog 73 #[vwV s a x] w fun e w' => ∃ v, e = .returned v ∧ OwnZ w' w.heap.size v (dirs.flatMap (horseAdd s a)) ∧ Below w.heap.size w w' := by
  have HS := Aside0.mk (fun (f r : Int) (h1 : -60 ≤ f ∧ f ≤ 60) (h2 : -60 ≤ r ∧ r ≤ 60) (W : World) => step_c s a x ha f r h1 h2 W)
  have HE := Aside0.mk (fun n W => empty_c s hs a x n W)
  obtain ⟨i0, hi0, hx0⟩ := Option.map_eq_some_iff.1 info_intZ
  simp only [Prod.mk.injEq] at hx0
  have HZ := Aside0.mk (⟨hi0, hx0⟩ : _ ∧ _)
  have hu := Try.underlying53
  clear hs ha hx0 hi0
  go_enter Try.func73, Try.ntmps73
  go_wp2_with fail
  have HD := Aside0.mk (dr_new w s a x)
  generalize ((w.alloc (.cells #[.string s, .int .i64 (a : Int), .int .u8 (x : Int)] 53)).alloc (.cells #[.int .i64 1, .int .i64 0, .int .i64 (-1), .int .i64 0, .int .i64 0, .int .i64 1, .int .i64 0, .int .i64 (-1)] 81)) = W2 at *
  have HD := Aside0.mk (show DrAt w W2 s a x (w.heap.size + 1) (.slice none 0 0) ((dirs.take 0).flatMap (horseAdd s a)) from HD.out)
  go_loopg [3, 5, 12] 4 (fun gg s3 _ s12 wr => ∃ i : Nat, s12 = .int .i64 (i : Int) ∧ i + gg = 4 ∧ Aside0 (DrAt w wr s a x (w.heap.size + 1) s3 ((dirs.take i).flatMap (horseAdd s a))))
  case atStart => exact ⟨0, rfl, by omega, HD⟩
  case round =>
    clear HD
    obtain ⟨i, rfl, hi, HD⟩ := hrel
    cases gk with
    | zero =>
      have hn : ¬ ((i : Int) < 4) := by omega
      have HI := Aside0.mk (show i = 4 by omega)
      clear hi
      go_wp2_with fail
      go_ret
      refine ⟨_, rfl, ?_, HD.out.vw.bel⟩
      have := HD.out.own.lower (B' := w.heap.size) (by omega)
      rw [HI.out] at this
      exact this
    | succ gk =>
      have hn : (i : Int) < 4 := by omega
      have hib : 0 ≤ (i : Int) := by omega
      have HI := Aside0.mk (show i + 1 + gk = 4 by omega)
      obtain ⟨hs1, hs2⟩ := dir_at i (by omega)
      obtain ⟨d, hd⟩ := Option.isSome_iff_exists.1 hs1
      obtain ⟨hm, k0, k1⟩ := hs2 d hd
      have x0 := HD.out.dir _ _ k0
      have x1 := HD.out.dir _ _ k1
      have HST := Aside0.mk (dirs_take (horseAdd s a) i d hd)
      have HAL := Aside0.mk (horse_len s a i (by omega))
      have HLA := Aside0.mk (show horseAdd s a d = if emptyZ s (stepN a d.1 d.2) = true then horseL a d else [] from rfl)
      generalize (dirs.take i).flatMap (horseAdd s a) = acc at *
      generalize horseAdd s a d = la at *
      obtain ⟨e1, e2, e3, e4⟩ := dir_small d hm
      obtain ⟨d1, d2⟩ := d
      simp only at x0 x1 HLA e1 e2 e3 e4
      clear hi hs1 hs2 hd hm k0 k1
      have HH0 := Aside0.mk (HsAt.new HD.out d1 d2)
      have hl1 : w.heap.size + 1 < wr.heap.size := HD.out.dlt.2
      go_wp2_with fail
      clear x0 x1 hl1 HD
      generalize wr.alloc (.cells #[.int .i64 d1, .int .i64 d2] 81) = W1 at *
      generalize wr.heap.size = bw at *
      have HH := Aside0.mk HH0.out.drew
      obtain ⟨c0, c1, c2, _⟩ := HH0.out.dr.vw
      have b0 := HH0.out.b0
      have b1 := HH0.out.b1
      clear HH0
      go_region_held3 (fun W => W.cell? ⟨w.heap.size, 0, none⟩ = some (.string s) ∧ W.cell? ⟨w.heap.size, 1, none⟩ = some (.int .i64 (a : Int)) ∧ W.cell? ⟨w.heap.size, 2, none⟩ = some (.int .u8 (x : Int)) ∧ W.cell? ⟨bw, 0, none⟩ = some (.int .i64 d1) ∧ W.cell? ⟨bw, 1, none⟩ = some (.int .i64 d2)) (go_keep)
        (first
          | (go_at_call 94; refine (HS.out _ _ (by omega) (by omega) _).mono ?_; rintro e w5 ⟨rfl, hb⟩; have HHn := Aside0.mk (HH.out.below hb); clear HH hb c0 c1 c2 b0 b1; have HH := HHn; clear HHn; obtain ⟨c0, c1, c2, _⟩ := HH.out.dr.vw; have b0 := HH.out.b0; have b1 := HH.out.b1)
          | (go_at_call 93; refine (HE.out _ _).mono ?_; rintro e w5 ⟨rfl, hb⟩; have HHn := Aside0.mk (HH.out.below hb); clear HH hb c0 c1 c2 b0 b1; have HH := HHn; clear HHn; obtain ⟨c0, c1, c2, _⟩ := HH.out.dr.vw; have b0 := HH.out.b0; have b1 := HH.out.b1))
      all_goals
        generalize emptyZ s (stepN a d1 d2) = bb at *
        cases bb
        · go_wp2_with fail
          go_roundg gk
          case measure => omega
          case rel =>
            refine ⟨i + 1, by go_num, by have := HI.out; omega, ⟨?_⟩⟩
            rw [HST.out, HLA.out, if_neg (by simp), List.append_nil]
            exact HH.out.dr
        · go_wp2_with fail
          have p0 : wrap64 (2 * d1) = 2 * d1 := by unfold wrap64; omega
          have q0 : IntKind.i64.wrap (2 * d1) = 2 * d1 := by rw [IntKind.wrap_i64]; omega
          have p1 : wrap64 (2 * d2) = 2 * d2 := by unfold wrap64; omega
          have q1 : IntKind.i64.wrap (2 * d2) = 2 * d2 := by rw [IntKind.wrap_i64]; omega
          have p2 : wrap64 (2 * d1 + d2) = 2 * d1 + d2 := by unfold wrap64; omega
          have q2 : IntKind.i64.wrap (2 * d1 + d2) = 2 * d1 + d2 := by rw [IntKind.wrap_i64]; omega
          have p3 : wrap64 (2 * d2 + d1) = 2 * d2 + d1 := by unfold wrap64; omega
          have q3 : IntKind.i64.wrap (2 * d2 + d1) = 2 * d2 + d1 := by rw [IntKind.wrap_i64]; omega
          have p4 : wrap64 (2 * d1 - d2) = 2 * d1 - d2 := by unfold wrap64; omega
          have q4 : IntKind.i64.wrap (2 * d1 - d2) = 2 * d1 - d2 := by rw [IntKind.wrap_i64]; omega
          have p5 : wrap64 (2 * d2 - d1) = 2 * d2 - d1 := by unfold wrap64; omega
          have q5 : IntKind.i64.wrap (2 * d2 - d1) = 2 * d2 - d1 := by rw [IntKind.wrap_i64]; omega
          have HHn := Aside0.mk HH.out.drew
          clear HH
          have HH := HHn
          clear HHn
          go_region_held3 (fun W => W.cell? ⟨w.heap.size, 0, none⟩ = some (.string s) ∧ W.cell? ⟨w.heap.size, 1, none⟩ = some (.int .i64 (a : Int)) ∧ W.cell? ⟨w.heap.size, 2, none⟩ = some (.int .u8 (x : Int)) ∧ W.cell? ⟨bw, 0, none⟩ = some (.int .i64 d1) ∧ W.cell? ⟨bw, 1, none⟩ = some (.int .i64 d2)) (go_keep)
            (first
              | (go_at_call 94; refine (HS.out _ _ (by omega) (by omega) _).mono ?_; rintro e w6 ⟨rfl, hb⟩; have HHn := Aside0.mk (HH.out.below hb); clear HH hb c0 c1 c2 b0 b1; have HH := HHn; clear HHn; obtain ⟨c0, c1, c2, _⟩ := HH.out.dr.vw; have b0 := HH.out.b0; have b1 := HH.out.b1)
              | (refine step_app2 _ (by rfl) _ _ (by rfl) (w.heap.size + 1 + 1) _ acc _ _ (by rfl) (by rfl) HH.out.dr.own HAL.out HH.out.dr.dlt.2 ?_; intro gg cap1 w7 hown1 hgrow; obtain ⟨hd7, b0', b1'⟩ := HH.out.appended _ hgrow _ (horseL a (d1, d2)) rfl hown1; have HD7 := Aside0.mk hd7; clear HH hd7 hown1 hgrow c0 c1 c2 b0 b1; obtain ⟨c0, c1, c2, _⟩ := HD7.out.vw))
          all_goals
            go_wp2_with fail
            go_roundg gk
            case measure => omega
            case rel =>
              refine ⟨i + 1, by go_num, by have := HI.out; omega, ⟨?_⟩⟩
              rw [HST.out, HLA.out]
              simp only [if_true]
              exact HD7.out
theorem vchariot_c (s : ByteArray) (hs : s.size = 90) (a x : Nat) (ha : a < 90) (w : World) : Calls Try.prog 74 #[vwV s a x] w fun e w' => ∃ v, e = .returned v ∧ OwnZ w' w.heap.size v (dirs.flatMap (lineAdd s a false)) ∧ Below w.heap.size w w' := by
  have HL := Aside0.mk (fun W => lines_c s hs a x ha false W)
  have hu := Try.underlying53
  go_enter Try.func74, Try.ntmps74
  go_wp2_with fail
  refine (HL.out _).mono ?_
  rintro e w1 ⟨v, rfl, h1, hb⟩
  have HR := Aside0.mk (And.intro (h1.lower (B' := w.heap.size) (by simp)) ((below_alloc (Below.refl w.heap.size w) _).trans (hb.mono (by simp))))
  clear h1 hb
  go_wp2_with fail
  go_ret
  exact ⟨_, rfl, HR.out.1, HR.out.2⟩
theorem vcannon_c (s : ByteArray) (hs : s.size = 90) (a x : Nat) (ha : a < 90) (w : World) : Calls Try.prog 75 #[vwV s a x] w fun e w' => ∃ v, e = .returned v ∧ OwnZ w' w.heap.size v (dirs.flatMap (lineAdd s a true)) ∧ Below w.heap.size w w' := by
  have HL := Aside0.mk (fun W => lines_c s hs a x ha true W)
  have hu := Try.underlying53
  go_enter Try.func75, Try.ntmps75
  go_wp2_with fail
  refine (HL.out _).mono ?_
  rintro e w1 ⟨v, rfl, h1, hb⟩
  have HR := Aside0.mk (And.intro (h1.lower (B' := w.heap.size) (by simp)) ((below_alloc (Below.refl w.heap.size w) _).trans (hb.mono (by simp))))
  clear h1 hb
  go_wp2_with fail
  go_ret
  exact ⟨_, rfl, HR.out.1, HR.out.2⟩
/-! ### way -/
def wayX (s : ByteArray) (a x : Nat) : List Int :=
  if kindN x = 75 then (kingL a).filter (mayZ x)
  else if kindN x = 65 then (fourL a 1).filter (mayZ x)
  else if kindN x = 66 then ((fourL a 2).filter (mayZ x)).filter (fun y => emptyZ s (halfZ a y))
  else if kindN x = 78 then dirs.flatMap (horseAdd s a)
  else if kindN x = 82 then dirs.flatMap (lineAdd s a false)
  else if kindN x = 67 then dirs.flatMap (lineAdd s a true)
  else if kindN x = 80 then pawnL (sideN x) a
  else []
theorem kind_side : ∀ x : Fin 256, kindN x.1 ≠ 0 → 0 ≤ sideN x.1 := by decide +kernel
theorem kinds8 : ∀ x : Fin 256, kindN x.1 = 75 ∨ kindN x.1 = 65 ∨ kindN x.1 = 66 ∨ kindN x.1 = 78 ∨ kindN x.1 = 82 ∨ kindN x.1 = 67 ∨ kindN x.1 = 80 ∨ kindN x.1 = 0 := by decide +kernel
set_option maxRecDepth 100000 in
set_option maxHeartbeats 2000000 in
theorem way_c (s : ByteArray) (hs : s.size = 90) (a x : Nat) (ha : a < 90) (hx : x < 256) (w : World) : Calls Try.prog 42 #[vwV s a x] w fun e w' => ∃ v, e = .returned v ∧ OwnZ w' w.heap.size v (wayX s a x) ∧ Below w.heap.size w w' := by
  have HK := Aside0.mk (fun W => kind_c x hx W)
  have H1 := Aside0.mk (fun W => general_c s a x ha hx W)
  have H2 := Aside0.mk (fun W => vadvisor_c s a x ha hx W)
  have H3 := Aside0.mk (fun W => velephant_c s hs a x ha hx W)
  have H4 := Aside0.mk (fun W => vhorse_c s hs a x ha W)
  have H5 := Aside0.mk (fun W => vchariot_c s hs a x ha W)
  have H6 := Aside0.mk (fun W => vcannon_c s hs a x ha W)
  have H7 := Aside0.mk (fun (h : 0 ≤ sideN x) W => vpawn_c s a x ha hx h W)
  have HSI := Aside0.mk (kind_side ⟨x, hx⟩)
  have hk := kinds8 ⟨x, hx⟩
  unfold wayX
  simp only at hk HSI
  have HB := Aside0.mk (VwAt.new w s a x)
  have hu := Try.underlying53
  clear hs ha hx
  generalize kindN x = kd at *
  have hall : ∀ (l : List Int) (f : Nat), (∀ W, Calls Try.prog f #[vwV s a x] W fun e w' => ∃ v, e = .returned v ∧ OwnZ w' W.heap.size v l ∧ Below W.heap.size W w') → ∀ W, VwAt w W s a x → Calls Try.prog f #[vwV s a x] W fun e w' => ∃ v, e = .returned v ∧ Aside0 (OwnZ w' w.heap.size v l ∧ Below w.heap.size w w') := by
    intro l f h W hV
    refine (h W).mono ?_
    rintro e w' ⟨v, rfl, h1, h2⟩
    exact ⟨v, rfl, ⟨h1.lower hV.bel.size, hV.bel.trans (h2.mono hV.bel.size)⟩⟩
  have HALL := Aside0.mk hall
  clear hall
  rcases hk with rfl | rfl | rfl | rfl | rfl | rfl | rfl | rfl
  all_goals
    simp only [if_true, if_false, reduceCtorEq, Nat.reduceEqDiff]
    go_enter Try.func42, Try.ntmps42
    go_wp2_with (first | (go_at_call 24; refine (HK.out _).mono ?_; rintro e w1 ⟨rfl, rfl⟩) | (go_at_call 70; refine (HALL.out _ _ H1.out _ HB.out).mono ?_; rintro e w2 ⟨v, rfl, HR⟩) | (go_at_call 71; refine (HALL.out _ _ H2.out _ HB.out).mono ?_; rintro e w2 ⟨v, rfl, HR⟩) | (go_at_call 72; refine (HALL.out _ _ H3.out _ HB.out).mono ?_; rintro e w2 ⟨v, rfl, HR⟩) | (go_at_call 73; refine (HALL.out _ _ H4.out _ HB.out).mono ?_; rintro e w2 ⟨v, rfl, HR⟩) | (go_at_call 74; refine (HALL.out _ _ H5.out _ HB.out).mono ?_; rintro e w2 ⟨v, rfl, HR⟩) | (go_at_call 75; refine (HALL.out _ _ H6.out _ HB.out).mono ?_; rintro e w2 ⟨v, rfl, HR⟩) | (go_at_call 76; refine (HALL.out _ _ (H7.out (HSI.out (by omega))) _ HB.out).mono ?_; rintro e w2 ⟨v, rfl, HR⟩))
    go_ret
    first
    | exact ⟨_, rfl, HR.out.1, HR.out.2⟩
    | exact ⟨_, rfl, own_znil _ _, HB.out.bel⟩
end Go.Proofs.Ytcanbidenhcohaa.K

/- Walks: reach.All. -/
namespace Go.Proofs.Ytcanbidenhcohaa.K
open Go.RowKit Go.Lib Go.Proofs.YtcanbidenhcohaaW.PrintWords Go.Proofs.YtcanbidenhcohaaW.PrintLast Go.Proofs.YtcanbidenhcohaaW.PrintMore Go.Proofs.Ytcanbidenhcohaa.Sp
set_option linter.unusedVariables false
set_option linter.unusedSimpArgs false
attribute [local go_sem] cel_get   -- for this text's walks alone
theorem all_closure (s : ByteArray) (hs : s.size = 90) (pc : Nat) (hp : pc < 256) (y : Int) (B1 B2 : Nat) (W : World) (h1 : W.cell? ⟨B1, 0, none⟩ = some (.string s)) (h2 : W.cell? ⟨B2, 0, none⟩ = some (.int .u8 (pc : Int))) :
    Calls Try.prog 43 (#[.int .i64 y] ++ #[.pointer (some ⟨B1, 0, none⟩), .pointer (some ⟨B2, 0, none⟩)]) W fun e W' => e = .returned (.bool (badZ s pc y)) ∧ Below W.heap.size W W' := by
  show Calls Try.prog 43 #[.int .i64 y, .pointer (some ⟨B1, 0, none⟩), .pointer (some ⟨B2, 0, none⟩)] W _
  have HI := Aside0.mk (fun W => isq_c y W)
  by_cases h : 0 ≤ y ∧ y < 90
  · have HSA := Aside0.mk (fun W => side_c (cel s y.toNat) (cel_lt s _) W)
    have HSB := Aside0.mk (fun W => side_c pc hp W)
    have HE := Aside0.mk (show badZ s pc y = (sideN (cel s y.toNat) == sideN pc) by unfold badZ; rw [decide_eq_true h]; rfl)
    rw [decide_eq_true h] at HI
    have h0 := h.1
    have h9 : y < (s.size : Int) := by rw [hs]; exact h.2
    generalize sideN pc = sp at *
    generalize sideN (cel s y.toNat) = sy at *
    clear h hs hp
    go_enter Try.func43, Try.ntmps43
    go_wp2_with fail
    go_quiet (first | (go_at_call 44; exact Calls.quiet_of_same (HI.out _)) | (go_at_call 22; (with_reducible exact Calls.quiet_of_same (HSA.out _))) | (go_at_call 22; (with_reducible exact Calls.quiet_of_same (HSB.out _))))
    go_wp2_with fail
    go_ret
    exact ⟨ret_bool HE.out.symm, pw_below_drewN (Below.refl _ _) _⟩
  · have HE := Aside0.mk (show badZ s pc y = true by unfold badZ; rw [decide_eq_false h]; rfl)
    rw [decide_eq_false h] at HI
    clear h hs hp
    go_enter Try.func43, Try.ntmps43
    go_wp2_with fail
    go_quiet (first | (go_at_call 44; exact Calls.quiet_of_same (HI.out _)))
    go_wp2_with fail
    go_ret
    exact ⟨ret_bool HE.out.symm, pw_below_drewN (Below.refl _ _) _⟩
/-- Numbers in a row that the call made, from block B on. -/
structure IntsAt (W : World) (B : Nat) (v : Value) (l : List Nat) : Prop where mk ::
  out : ∃ A cap, v = .slice A l.length cap ∧ l.length ≤ cap ∧ (l = [] ∨ ∃ g, A = some ⟨g, 0, none⟩ ∧ B ≤ g ∧ g < W.heap.size ∧ ∀ i (h : i < l.length), W.cell? ⟨g, i, none⟩ = some (.int .i64 (l[i] : Int)))
theorem IntsAt.below {W W' : World} {B : Nat} {v : Value} {l : List Nat} (h : IntsAt W B v l) (hb : Below W.heap.size W W') : IntsAt W' B v l := by
  obtain ⟨A, cap, hv, hc, h⟩ := h.out
  refine ⟨A, cap, hv, hc, ?_⟩
  rcases h with h | ⟨g, hA, hB, hg, hx⟩
  · exact .inl h
  · exact .inr ⟨g, hA, hB, Nat.lt_of_lt_of_le hg hb.size, fun i hi => (hb.cell (p := ⟨g, i, none⟩) hg).trans (hx i hi)⟩
def allS (s : ByteArray) (a : Int) : List Nat := if isBoard s = true ∧ 0 ≤ a ∧ a < 90 then allN (cel s) a.toNat else []
theorem ints_of {W : World} {B : Nat} {v : Value} {l : List Nat} (h : OwnZ W B v (ints l)) : IntsAt W B v l := by
  have hlen : (ints l).length = l.length := by simp [ints]
  obtain ⟨hx, ⟨h0, h1⟩ | ⟨g, cap, cur, h0, hb, hg, hn, hc, hs, ht⟩⟩ := h
  · rw [hlen] at h1
    exact ⟨none, 0, by rw [h0, h1], by omega, .inl (List.length_eq_zero_iff.1 h1)⟩
  · rw [hlen] at h0 hn ht
    refine ⟨_, cap, h0, hn, .inr ⟨g, rfl, hb, blk_lt hg, ?_⟩⟩
    intro i hi
    have e : (nums .i64 (ints l))[i]? = some (.int .i64 (l[i] : Int)) := by
      simp [nums, ints, hi]
    rw [← ht, List.getElem?_take] at e
    split at e
    · simp only [World.cell?, hg]
      simpa using e
    · cases e
theorem way_no (s : ByteArray) (a : Int) (w : World) : Calls Try.prog 42 #[.agg #[.string s, .int .i64 a, .int .u8 46]] w fun e w' => e = .returned (.slice none 0 0) ∧ Below w.heap.size w w' := by
  have HK := kind_c 46 (by omega)
  rw [show kindN 46 = 0 from rfl] at HK
  have HK := Aside0.mk HK
  have HB := Aside0.mk (below_alloc (Below.refl w.heap.size w) (.cells #[.string s, .int .i64 a, .int .u8 46] 53))
  have hu := Try.underlying53
  go_enter Try.func42, Try.ntmps42
  go_wp2_with (go_at_call 24; refine (HK.out _).mono ?_; rintro e w1 ⟨rfl, rfl⟩)
  go_ret
  exact ⟨rfl, HB.out⟩
/-- slices.DeleteFunc over All's closure. -/
theorem all_del (s : ByteArray) (hs : s.size = 90) (pc : Nat) (hp : pc < 256) (B1 B2 : Nat) (h12 : B1 < B2) (v : Value) (l : List Int) (W : World) (c1 : W.cell? ⟨B1, 0, none⟩ = some (.string s)) (c2 : W.cell? ⟨B2, 0, none⟩ = some (.int .u8 (pc : Int))) (ho : OwnZ W (B2 + 1) v l) :
    Calls Try.prog 41 #[v, .func (.func 43) #[] #[.pointer (some ⟨B1, 0, none⟩), .pointer (some ⟨B2, 0, none⟩)]] W fun e w' => ∃ v', e = .returned v' ∧ OwnZ w' (B2 + 1) v' (l.filter (fun y => !badZ s pc y)) ∧ Below (B2 + 1) W w' :=
  del_Z 43 #[.pointer (some ⟨B1, 0, none⟩), .pointer (some ⟨B2, 0, none⟩)] (badZ s pc) (enters_of Try.func43 (by kernel_rfl) rfl) (B2 + 1) v l W (World.block_lt_of_cell? W _ c2) ho (by
    intro b hb _ _ W2 y hy hk
    have key : ∀ g : Nat, g < W.heap.size → g ≠ b → W2.cell? ⟨g, 0, none⟩ = W.cell? ⟨g, 0, none⟩ := fun g hg hne => by
      have := hk.2 g hg hne (by simp)
      unfold World.cell?; simp only [this]
    exact all_closure s hs pc hp y B1 B2 W2 ((key B1 (World.block_lt_of_cell? W _ c1) (by omega)).trans c1) ((key B2 (World.block_lt_of_cell? W _ c2) (by omega)).trans c2))
/-- What All holds of its boxes. -/
structure AlAt (w0 W : World) (s : ByteArray) (pc : Nat) (B2 : Nat) : Prop where
  c1 : W.cell? ⟨w0.heap.size, 0, none⟩ = some (.string s)
  c2 : W.cell? ⟨B2, 0, none⟩ = some (.int .u8 (pc : Int))
  lt : w0.heap.size < B2
  bel : Below w0.heap.size w0 W
theorem AlAt.blt {w0 W : World} {s : ByteArray} {pc B2 : Nat} (h : AlAt w0 W s pc B2) : B2 < W.heap.size := World.block_lt_of_cell? W _ h.c2
theorem AlAt.keep {w0 W W' : World} {s : ByteArray} {pc B2 : Nat} (h : AlAt w0 W s pc B2) {B : Nat} (hB : B2 < B) (hb : Below B W W') : AlAt w0 W' s pc B2 :=
  ⟨(hb.cell (p := ⟨w0.heap.size, 0, none⟩) (Nat.lt_trans h.lt hB)).trans h.c1, (hb.cell (p := ⟨B2, 0, none⟩) hB).trans h.c2, h.lt, h.bel.trans (hb.mono (by have := h.lt; omega))⟩
theorem AlAt.below {w0 W W' : World} {s : ByteArray} {pc B2 : Nat} (h : AlAt w0 W s pc B2) (hb : Below W.heap.size W W') : AlAt w0 W' s pc B2 := h.keep h.blt hb
theorem AlAt.new {w0 W : World} {s : ByteArray} (h1 : W.cell? ⟨w0.heap.size, 0, none⟩ = some (.string s)) (hb : Below w0.heap.size w0 W) (pc : Nat) : AlAt w0 (W.alloc (.cells #[.int .u8 (pc : Int)] 5)) s pc W.heap.size := by
  have hlt := World.block_lt_of_cell? W _ h1
  exact ⟨((below_alloc (Below.refl W.heap.size W) _).cell (p := ⟨w0.heap.size, 0, none⟩) hlt).trans h1, by simp [World.cell?_alloc_at], hlt, below_alloc hb _⟩
set_option maxHeartbeats 2000000 in
theorem all_c (s : ByteArray) (a : Int) (w : World) : Calls Try.prog 15 #[.string s, .int .i64 a] w fun e w' => ∃ v, e = .returned v ∧ IntsAt w' w.heap.size v (allS s a) ∧ Below w.heap.size w w' := by
  have HAT := Aside0.mk (fun W => at_c s a W)
  by_cases hin : isBoard s = true ∧ 0 ≤ a ∧ a < 90
  case neg =>
    rw [show atS s a = 46 by unfold atS; rw [if_neg hin]] at HAT
    rw [show allS s a = [] by unfold allS; rw [if_neg hin]]
    have HWY := Aside0.mk (fun W => way_no s a W)
    clear hin
    go_enter Try.func15, Try.ntmps15
    go_wp2_with fail
    refine (HAT.out _).mono ?_
    rintro e w1 ⟨rfl, hb⟩
    have HB1 := Aside0.mk ((below_alloc (Below.refl w.heap.size w) (.cells #[.string s] 9)).trans (hb.mono (by simp)))
    have hc1 : w1.cell? ⟨w.heap.size, 0, none⟩ = some (.string s) := (hb.cell (p := ⟨w.heap.size, 0, none⟩) (by simp)).trans (by simp [World.cell?_alloc_at])
    clear hb
    have HA1 := Aside0.mk (AlAt.new hc1 HB1.out 46)
    have hlt : w.heap.size < w1.heap.size := World.block_lt_of_cell? _ _ hc1
    have hu := Try.underlying53
    go_wp2_with fail
    refine (HWY.out _).mono ?_
    rintro e w2 ⟨rfl, hb⟩
    have HA2 := Aside0.mk (HA1.out.below hb)
    clear hb HA1 HB1 hc1 hlt
    go_wp2_with (go_at_call 41; refine (del_nil none 0 _ _).mono ?_; rintro e w3 ⟨rfl, rfl⟩)
    refine (sort_Z w3.heap.size _ [] w3 (by simp) (own_znil _ _)).mono ?_
    rintro e w4 ⟨rfl, h4, hb⟩
    have HA4 := Aside0.mk (HA2.out.below hb)
    clear hb h4 HA2
    go_wp2_with fail
    refine (compact_Z w4.heap.size _ [] w4 (own_znil _ _)).mono ?_
    rintro e w5 ⟨v, rfl, h5, hb⟩
    have HA5 := Aside0.mk (HA4.out.below hb)
    have HO5 := Aside0.mk (h5.lower HA4.out.bel.size)
    clear hb h5 HA4
    go_wp2_with fail
    go_ret
    exact ⟨_, rfl, ints_of (l := []) HO5.out, HA5.out.bel⟩
  obtain ⟨hbd, h0, h9⟩ := hin
  obtain ⟨n, rfl⟩ : ∃ n : Nat, a = n := ⟨a.toNat, by omega⟩
  have hn : n < 90 := by omega
  have hs := board_size hbd
  rw [show atS s (n : Int) = cel s n by unfold atS; rw [if_pos ⟨hbd, h0, h9⟩]; rfl] at HAT
  rw [show allS s (n : Int) = allN (cel s) n by unfold allS; rw [if_pos ⟨hbd, h0, h9⟩]; rfl]
  have hx := cel_lt s n
  have HWY := Aside0.mk (fun W => way_c s hs n (cel s n) hn hx W)
  rw [show wayX s n (cel s n) = wayZ s n from rfl] at HWY
  have HALL := Aside0.mk (all_sorted s n hn)
  have hlen : (wayZ s n).length ≤ 1000 := by
    by_cases h : 0 ≤ sideN (cel s n)
    · exact (way_ok s n hn h).2.2
    · rw [way_none s n (by omega)]; simp
  have HLEN := Aside0.mk (show ((wayZ s n).filter (fun y => !badZ s (cel s n) y)).length < 4611686018427387904 from Nat.lt_of_le_of_lt (List.length_filter_le _ _) (by omega))
  have HCL := Aside0.mk (fun (y : Int) (B1 B2 : Nat) (W : World) h1 h2 => all_closure s hs (cel s n) hx y B1 B2 W h1 h2)
  generalize wayZ s n = l at *
  generalize cel s n = pc at *
  have HDL := Aside0.mk (fun (B1 B2 : Nat) (h12 : B1 < B2) (v : Value) (W : World) c1 c2 ho => all_del s hs pc hx B1 B2 h12 v l W c1 c2 ho)
  generalize hfl : l.filter (fun y => !badZ s pc y) = fl at *
  clear hbd h0 h9 hn hs hx hlen hfl
  go_enter Try.func15, Try.ntmps15
  go_wp2_with fail
  refine (HAT.out _).mono ?_
  rintro e w1 ⟨rfl, hb⟩
  have HB1 := Aside0.mk ((below_alloc (Below.refl w.heap.size w) (.cells #[.string s] 9)).trans (hb.mono (by simp)))
  have hc1 : w1.cell? ⟨w.heap.size, 0, none⟩ = some (.string s) := (hb.cell (p := ⟨w.heap.size, 0, none⟩) (by simp)).trans (by simp [World.cell?_alloc_at])
  clear hb
  have HA1 := Aside0.mk (AlAt.new hc1 HB1.out pc)
  have hlt : w.heap.size < w1.heap.size := World.block_lt_of_cell? _ _ hc1
  have hu := Try.underlying53
  go_wp2_with fail
  refine (HWY.out _).mono ?_
  rintro e w2 ⟨v2, rfl, h2, hb⟩
  have HA2 := Aside0.mk (HA1.out.below hb)
  have HO2 := Aside0.mk (h2.lower (B' := w1.heap.size + 1) (by simp))
  clear hb h2 HA1 HB1 hc1 hlt
  go_wp2_with fail
  refine (HDL.out _ _ HA2.out.lt _ _ HA2.out.c1 HA2.out.c2 HO2.out).mono ?_
  rintro e w3 ⟨v3, rfl, h3, hb⟩
  have HA3 := Aside0.mk (HA2.out.keep (by omega) hb)
  have HO3 := Aside0.mk h3
  clear hb h3 HA2 HO2
  go_wp2_with fail
  refine (sort_Z _ _ _ _ HLEN.out HO3.out).mono ?_
  rintro e w4 ⟨rfl, h4, hb⟩
  have HA4 := Aside0.mk (HA3.out.keep (by omega) hb)
  have HO4 := Aside0.mk h4
  clear hb h4 HA3 HO3
  go_wp2_with fail
  refine (compact_Z _ _ _ _ HO4.out).mono ?_
  rintro e w5 ⟨v5, rfl, h5, hb⟩
  rw [HALL.out] at h5
  have HA5 := Aside0.mk (HA4.out.keep (by omega) hb)
  have HO5 := Aside0.mk h5
  clear hb h5 HA4 HO4
  go_wp2_with fail
  go_ret
  exact ⟨_, rfl, ints_of (HO5.out.lower (by have := HA5.out.lt; omega)), HA5.out.bel⟩
end Go.Proofs.Ytcanbidenhcohaa.K

/- reach.All, walked compactly: what stands behind it. -/
namespace Go.Proofs.Ytcanbidenhcohaa.K
end Go.Proofs.Ytcanbidenhcohaa.K

/- Walks: pseudo.gather, Moves, Captures. -/
namespace Go.Proofs.Ytcanbidenhcohaa.K
open Go.RowKit Go.Lib Go.Proofs.YtcanbidenhcohaaW.PrintWords Go.Proofs.Ytcanbidenhcohaa.Sp
set_option linter.unusedVariables false
set_option linter.unusedSimpArgs false
attribute [local go_sem] cel_get   -- for this text's walks alone
abbrev Mv := Nat × Nat
def mvC (m : Mv) : List Value := [.int .i64 (m.1 : Int), .int .i64 (m.2 : Int)]
def flatM (l : List Mv) : List Value := l.flatMap mvC
theorem flatM_len (l : List Mv) : (flatM l).length = l.length * 2 := by
  induction l with
  | nil => rfl
  | cons x r ih => simp only [flatM, List.flatMap_cons, List.length_append, List.length_cons] at *; simp [mvC, ih]; omega
theorem flatM_append (l : List Mv) (x : Mv) : flatM (l ++ [x]) = flatM l ++ mvC x := by simp [flatM]
theorem flatM_get (l : List Mv) (i j : Nat) (hi : i < l.length) (hj : j < 2) : (flatM l)[i * 2 + j]? = (mvC l[i])[j]? := by
  induction l generalizing i with
  | nil => simp at hi
  | cons x r ih =>
    have hl : (mvC x).length = 2 := rfl
    cases i with
    | zero =>
      simp only [flatM, List.flatMap_cons]
      rw [List.getElem?_append_left (by rw [hl]; omega)]
      simp
    | succ i =>
      simp only [flatM, List.flatMap_cons]
      rw [List.getElem?_append_right (by rw [hl]; omega), hl, show (i + 1) * 2 + j - 2 = i * 2 + j by omega]
      exact ih i (by simpa using hi)
/-- A row of moves of the call's own, from block B on. -/
def OwnM (W : World) (B : Nat) (v : Value) (l : List Mv) : Prop := W.ownsRow B 42 2 v l.length (flatM l)
theorem OwnM.below {W W' : World} {B : Nat} {v : Value} {l : List Mv} (h : OwnM W B v l) (hb : Below W.heap.size W W') : OwnM W' B v l := pw_own_below h hb
theorem OwnM.lower {W : World} {B B' : Nat} {v : Value} {l : List Mv} (h : OwnM W B v l) (hb : B' ≤ B) : OwnM W B' v l := by
  obtain ⟨h1, h2 | ⟨g, cap, cur, h2, h3, h4⟩⟩ := h
  · exact ⟨h1, .inl h2⟩
  · exact ⟨h1, .inr ⟨g, cap, cur, h2, Nat.le_trans hb h3, h4⟩⟩
/-- The moves from a square. -/
def fromM (s : ByteArray) (side : Int) (q : Nat → Bool) (a : Nat) : List Mv := if sideN (cel s a) = side then ((allN (cel s) a).filter (fun b => q (cel s b))).map (fun b => (a, b)) else []
def gathM (s : ByteArray) (side : Int) (q : Nat → Bool) (n : Nat) : List Mv := (List.range n).flatMap (fromM s side q)
theorem gathM_succ (s : ByteArray) (side : Int) (q : Nat → Bool) (n : Nat) : gathM s side q (n + 1) = gathM s side q n ++ fromM s side q n := by
  unfold gathM; rw [List.range_succ, List.flatMap_append]; simp
theorem allN_len (c : Nat → Nat) (a : Nat) : (allN c a).length ≤ 90 := by
  unfold allN; exact Nat.le_trans (List.length_filter_le _ _) (by simp)
theorem allN_lt (c : Nat → Nat) (a : Nat) : ∀ b ∈ allN c a, b < 90 := by
  intro b hb; unfold allN at hb; exact List.mem_range.1 (List.mem_filter.1 hb).1
theorem fromM_len (s : ByteArray) (side : Int) (q : Nat → Bool) (a : Nat) : (fromM s side q a).length ≤ 90 := by
  unfold fromM; split
  · rw [List.length_map]; exact Nat.le_trans (List.length_filter_le _ _) (allN_len _ _)
  · simp
theorem gathM_len (s : ByteArray) (side : Int) (q : Nat → Bool) (n : Nat) : (gathM s side q n).length ≤ 90 * n := by
  induction n with
  | zero => simp [gathM]
  | succ n ih => rw [gathM_succ, List.length_append]; have := fromM_len s side q n; omega
/-- The moves of a position to squares where something is so. -/
def gathP (p : Pos) (q : Nat → Bool) : List Mv := if checkP p = 0 then gathM p.cells p.side q 90 else []
/-- The first j of the moves from a square. -/
def partM (s : ByteArray) (q : Nat → Bool) (a j : Nat) : List Mv := (((allN (cel s) a).take j).filter (fun b => q (cel s b))).map (fun b => (a, b))
theorem partM_succ (s : ByteArray) (q : Nat → Bool) (a j : Nat) (h : j < (allN (cel s) a).length) : partM s q a (j + 1) = partM s q a j ++ (if q (cel s (allN (cel s) a)[j]) = true then [(a, (allN (cel s) a)[j])] else []) := by
  unfold partM
  rw [List.take_succ_eq_append_getElem h, List.filter_append, List.map_append]
  congr 1
  split <;> simp_all
theorem partM_len (s : ByteArray) (q : Nat → Bool) (a j : Nat) : (partM s q a j).length ≤ 90 := by
  unfold partM
  rw [List.length_map]
  exact Nat.le_trans (List.length_filter_le _ _) (by rw [List.length_take]; have := allN_len (cel s) a; omega)
theorem info_move : (Try.prog.info? 42).map (fun i => (i.zero, i.size, i.bytes)) = some (some (.agg #[.int .i64 0, .int .i64 0]), 2, 16) := by kernel_rfl
/-- What gather's loops keep. -/
structure GathAt (w0 W : World) (p : Pos) (v : Value) (l : List Mv) : Prop where
  c0 : W.cell? ⟨w0.heap.size, 0, none⟩ = some (.string p.cells)
  c1 : W.cell? ⟨w0.heap.size, 1, none⟩ = some (.int .i64 p.side)
  own : OwnM W (w0.heap.size + 1) v l
  bel : Below w0.heap.size w0 W
  lt : w0.heap.size < W.heap.size
theorem GathAt.below {w0 W W' : World} {p : Pos} {v : Value} {l : List Mv} (h : GathAt w0 W p v l) (hb : Below W.heap.size W W') : GathAt w0 W' p v l :=
  ⟨(hb.cell (p := ⟨w0.heap.size, 0, none⟩) h.lt).trans h.c0, (hb.cell (p := ⟨w0.heap.size, 1, none⟩) h.lt).trans h.c1, h.own.below hb, h.bel.trans (hb.mono h.bel.size), Nat.lt_of_lt_of_le h.lt hb.size⟩
/-- Behind an append. -/
theorem GathAt.grown {w0 W W1 : World} {p : Pos} {v v1 : Value} {l l1 : List Mv} (h : GathAt w0 W p v l) (hg : W.grownBy W1 v.ownBlock) (ho : OwnM W1 (w0.heap.size + 1) v1 l1) : GathAt w0 W1 p v1 l1 := by
  have hne : some w0.heap.size ≠ v.ownBlock := fun he => by have := own_base h.own _ he.symm; omega
  exact ⟨(hg.cell_far ⟨w0.heap.size, 0, none⟩ h.lt hne).trans h.c0, (hg.cell_far ⟨w0.heap.size, 1, none⟩ h.lt hne).trans h.c1, ho, h.bel.grown hg (Nat.le_of_lt h.lt) (fun k hk => by have := own_base h.own k hk; omega), Nat.lt_of_lt_of_le h.lt hg.size⟩
theorem below_cell {W w1 : World} (hb : Below W.heap.size W w1) (g o : Nat) (v : Value) (h : W.cell? ⟨g, o, none⟩ = some v) : w1.cell? ⟨g, o, none⟩ = some v :=
  (hb.cell (p := ⟨g, o, none⟩) (World.block_lt_of_cell? W _ h)).trans h
def Hold (P : Prop) : Prop := P
theorem hold {P : Prop} (h : Hold P) : P := h
theorem Hold.go {P : Prop} (h : P) : Hold P := h
theorem news_own (w : World) (B : Obj) : (w.alloc B).heap[w.heap.size]? = some B := by show (w.heap.push B)[w.heap.size]? = _; simp
/-- All's row beside the moves' row. -/
structure AllAt (W : World) (A : Option Addr) (l : List Nat) (s : Value) : Prop where mk ::
  out : l = [] ∨ ∃ g, A = some ⟨g, 0, none⟩ ∧ g < W.heap.size ∧ s.ownBlock ≠ some g ∧ ∀ i (h : i < l.length), W.cell? ⟨g, i, none⟩ = some (.int .i64 (l[i] : Int))
theorem AllAt.at {W : World} {A : Option Addr} {l : List Nat} {s : Value} (h : AllAt W A l s) {j : Nat} (hj : j < l.length) : ∃ g, A = some ⟨g, 0, none⟩ ∧ g < W.heap.size ∧ s.ownBlock ≠ some g ∧ ∀ i (h : i < l.length), W.cell? ⟨g, i, none⟩ = some (.int .i64 (l[i] : Int)) := by
  rcases h.out with h | h
  · subst h; simp at hj
  · exact h
theorem AllAt.below {W W' : World} {A : Option Addr} {l : List Nat} {s : Value} (h : AllAt W A l s) (hb : Below W.heap.size W W') : AllAt W' A l s := by
  rcases h.out with h | ⟨g, hA, h1, h2, h3⟩
  · exact ⟨.inl h⟩
  · exact ⟨.inr ⟨g, hA, Nat.lt_of_lt_of_le h1 hb.size, h2, fun i hi => (hb.cell (p := ⟨g, i, none⟩) h1).trans (h3 i hi)⟩⟩
set_option maxRecDepth 100000 in
set_option maxHeartbeats 4000000 in
theorem gather_c (p : Pos) (g : Nat) (q : Nat → Bool) (hq : ∀ (W : World) (x : Nat), x < 256 → Calls Try.prog g #[.int .u8 (x : Int)] W fun e w' => e = .returned (.bool (q x)) ∧ w' = W)
    (eg : ∀ args w, (callFunc g args).run Try.prog w = .ok (.enter g args) w) (w : World) :
    Calls Try.prog 63 #[posV p, .func (.func g) #[] #[]] w fun e w' => ∃ v, e = .returned v ∧ OwnM w' w.heap.size v (gathP p q) ∧ Below w.heap.size w w' := by
  have HCK := Aside0.mk (fun W => check_c p W)
  have hu := Try.underlying38
  by_cases hck : checkP p = 0
  case neg =>
    rw [show gathP p q = [] by unfold gathP; rw [if_neg hck]]
    have h1 : (checkP p == 0) = false := by simpa using hck
    have h2 : (checkP p != 0) = true := by simpa using hck
    clear hck
    generalize checkP p = ck at HCK h1 h2
    go_enter Try.func63, Try.ntmps63
    go_wp2_with fail
    go_step3
    go_wp2_with fail
    refine (HCK.out _).mono ?_
    rintro e w1 ⟨rfl, hb⟩
    have HB := Aside0.mk ((below_alloc (Below.refl w.heap.size w) _).trans (hb.mono (by simp)))
    clear hb
    go_wp2_with fail
    rw [Exit.noGoto_ret]
    go_ret
    exact ⟨_, rfl, own_nil _ _ _ _, HB.out⟩
  rw [hck] at HCK
  have HGP := Aside0.mk (show gathP p q = gathM p.cells p.side q 90 by unfold gathP; rw [if_pos hck])
  have hbd : isBoard p.cells = true := by
    unfold checkP at hck
    cases ha : argOk p
    · rw [ha] at hck; simp at hck
    · exact (argOk_yes ha).1
  have HBD := Aside0.mk hbd
  have HSZ := Aside0.mk (board_size hbd)
  clear hck hbd
  go_enter Try.func63, Try.ntmps63
  go_wp2_with fail
  go_step3
  go_wp2_with fail
  refine (HCK.out _).mono ?_
  rintro e w1 ⟨rfl, hb⟩
  have HG0 : Aside0 (GathAt w w1 p (.slice none 0 0) []) := ⟨⟨(hb.cell (p := ⟨w.heap.size, 0, none⟩) (by simp)).trans (by simp), (hb.cell (p := ⟨w.heap.size, 1, none⟩) (by simp)).trans (by simp), own_nil _ _ _ _, (below_alloc (Below.refl w.heap.size w) _).trans (hb.mono (by simp)), by have := hb.size; simp at this; omega⟩⟩
  clear hb HCK
  go_wp2_with fail
  go_step3
  go_wp2_with fail
  obtain ⟨i0, hi0, hx⟩ := Option.map_eq_some_iff.1 info_move
  simp only [Prod.mk.injEq] at hx
  have HZ := Aside0.mk (⟨hi0, hx⟩ : _ ∧ _)
  clear hx hi0
  have HALL := Aside0.mk (fun (a : Nat) (W : World) => all_c p.cells a W)
  have HSID := Aside0.mk (fun (a : Nat) W => side_c (cel p.cells a) W)
  go_loopg [5, 12] 90 (fun gg s5 s12 wr => ∃ i : Nat, s12 = .int .i64 i ∧ i + gg = 90 ∧ Aside0 (GathAt w wr p s5 (gathM p.cells p.side q i)))
  case atStart => exact ⟨0, rfl, by omega, HG0⟩
  case round =>
    obtain ⟨i, rfl, hi, HG⟩ := hrel
    cases gk with
    | zero =>
      have hn : ¬ ((i : Int) < 90) := by omega
      have HI := Aside0.mk (show i = 90 by omega)
      clear hi
      go_wp2_with fail
      go_ret
      refine ⟨_, rfl, ?_, HG.out.bel⟩
      rw [HGP.out, ← HI.out]
      exact HG.out.own.lower (by omega)
    | succ g2 =>
      have hn : ((i : Int) < 90) := by omega
      have HI := Aside0.mk (show i + 1 + g2 = 90 by omega)
      have HC0 := Aside0.mk HG.out.c0
      have HC1 := Aside0.mk HG.out.c1
      have hcs : cel p.cells i < 256 := cel_lt _ _
      have hsz : (i : Int) < p.cells.size := by rw [HSZ.out]; omega
      clear hi
      go_wp2_with fail
      have c0 := HC0.out
      have c1 := HC1.out
      go_quiet (first | (go_at_call 22; exact Calls.quiet_of_same (HSID.out _ hcs _)))
      have HG2 := Aside0.mk (HG.out.below (pw_below_drewN (Below.refl _ _) nq))
      have HG := HG2
      clear HG2 HC0 HC1 c0 c1
      generalize wr.drewN nq = wr at *
      cases hsd : (sideN (cel p.cells i) != p.side)
      case true =>
        have HF := Aside0.mk (show fromM p.cells p.side q i = [] by unfold fromM; rw [if_neg (by simpa using hsd)])
        go_wp2_with fail
        go_roundg g2
        case measure => omega
        case rel => 
          refine ⟨i + 1, rfl, HI.out, Aside0.mk ?_⟩
          rw [gathM_succ, HF.out, List.append_nil]
          exact HG.out
      case false =>
      have HF := Aside0.mk (show fromM p.cells p.side q i = partM p.cells q i (allN (cel p.cells) i).length by unfold fromM partM; rw [if_pos (by simpa using hsd), List.take_length])
      have c0 := HG.out.c0
      go_wp2_with fail
      refine (HALL.out i _).mono ?_
      rintro e w2 ⟨v, rfl, HI2, hb⟩
      have ha : allS p.cells (i : Int) = allN (cel p.cells) i := by unfold allS; rw [if_pos ⟨HBD.out, by omega, by omega⟩]; rfl
      rw [ha] at HI2
      obtain ⟨A, cap, rfl, hcap, hA⟩ := HI2.out
      have HG1 := Aside0.mk (HG.out.below hb)
      have HAL : Aside0 (AllAt w2 A (allN (cel p.cells) i) u5) := by
        rcases hA with hA | ⟨g', rfl, h1, h2, h3⟩
        · exact Aside0.mk ⟨.inl hA⟩
        · exact Aside0.mk ⟨.inr ⟨g', rfl, h2, fun he => by have := (HG.out.own.lt g' he).2; omega, h3⟩⟩
      clear hA HI2 c0 ha
      have HLL := Aside0.mk (allN_lt (cel p.cells) i)
      have HL90 := Aside0.mk (allN_len (cel p.cells) i)
      generalize hl : allN (cel p.cells) i = l at *
      have hm : (l.length : Int) ≤ 90 := by have := HL90.out; omega
      go_wp2_with fail
      go_loopg [28, 5] l.length (fun gg s28 s5 wr => ∃ j : Nat, s28 = .int .i64 j ∧ j + gg = l.length ∧ Aside0 (GathAt w wr p s5 (gathM p.cells p.side q i ++ partM p.cells q i j)) ∧ Aside0 (AllAt wr A l s5))
      case atStart => exact ⟨0, rfl, by omega, Aside0.mk (by rw [show partM p.cells q i 0 = [] by simp [partM], List.append_nil]; exact HG1.out), HAL⟩
      case round =>
      clear HG HG1 HAL
      obtain ⟨j, rfl, hj, HG, HAL⟩ := hrel
      cases gk with
      | zero =>
        have hjn : ¬ ((j : Int) < (l.length : Int)) := by omega
        have HJ := Aside0.mk (show j = l.length by omega)
        clear hj
        go_wp2_with fail
        go_roundg g2
        case measure => omega
        case rel =>
          refine ⟨i + 1, rfl, HI.out, Aside0.mk ?_⟩
          rw [gathM_succ, HF.out, ← HJ.out]
          exact HG.out
      | succ g3 =>
        have hjn : ((j : Int) < (l.length : Int)) := by omega
        have hjl : j < l.length := by omega
        have HJ := Aside0.mk (show j + 1 + g3 = l.length by omega)
        obtain ⟨g', rfl, h1, h2, h3⟩ := HAL.out.at hjl
        have cj := h3 j hjl
        have HXL := Aside0.mk (HLL.out _ (List.getElem_mem hjl))
        have HPS := Aside0.mk (partM_succ p.cells q i j (by rw [hl]; exact hjl))
        simp only [hl] at HPS
        generalize l[j] = x at *
        have c0 := HG.out.c0
        have hcs2 : cel p.cells x < 256 := cel_lt _ _
        have hsz2 : (x : Int) < p.cells.size := by rw [HSZ.out]; have := HXL.out; omega
        clear hj h2 h3
        go_wp2_with fail
        refine (hq _ _ hcs2).mono ?_
        rintro e w3 ⟨rfl, rfl⟩
        cases hqx : q (cel p.cells x)
        case false =>
          have HN := Aside0.mk (show partM p.cells q i (j + 1) = partM p.cells q i j by rw [HPS.out, if_neg (by simp [hqx]), List.append_nil])
          go_wp2_with fail
          go_roundg g3
          case measure => omega
          case rel =>
            refine ⟨j + 1, rfl, HJ.out, Aside0.mk ?_, HAL⟩
            rw [HN.out]
            exact HG.out
        case true =>
          have HN := Aside0.mk (show partM p.cells q i (j + 1) = partM p.cells q i j ++ [(i, x)] by rw [HPS.out, if_pos hqx])
          have HLN := Aside0.mk (show (gathM p.cells p.side q i ++ partM p.cells q i j).length ≤ 90 * i + 90 by rw [List.length_append]; have := gathM_len p.cells p.side q i; have := partM_len p.cells q i j; omega)
          have HGL := Aside0.mk (show gathM p.cells p.side q i ++ partM p.cells q i (j + 1) = gathM p.cells p.side q i ++ partM p.cells q i j ++ [(i, x)] by rw [HN.out, List.append_assoc])
          generalize gathM p.cells p.side q i ++ partM p.cells q i j = L at *
          have HI90 := Aside0.mk (show i < 90 by omega)
          go_wp2_with (first | (at_builtin; refine hold ?_))
          refine Hold.go ?_
          refine wpList_append_lies _ (by rfl) _ _ _ (by rfl) (w.heap.size + 1) 42 i0 _ 2 16 Try.underlying39 HZ.out.1 HZ.out.2.1 HZ.out.2.2.1 HZ.out.2.2.2 rfl (by omega) _ L.length (flatM L) (by rfl) (HG.out.own.below (below_alloc (Below.refl _ _) _)) ⟨w3.heap.size, 0, none⟩ 1 1 (mvC (i, x)) (by rfl) (by rfl) (World.news_of_block (cs := #[.int .i64 (i : Int), .int .i64 (x : Int)]) (t := 42) (fr := (0, 0)) (news_own _ _)) (by simp [Value.oneCell', mvC]) (by omega) (by have := HLN.out; have := HI90.out; unfold maxLen; omega) (by have := HLN.out; have := HI90.out; omega) (by have := HG.out.lt; simp; omega) _ rfl ?_
          intro gg cap1 w1 hown1 hgrow hat hlt1
          have HO1 := Aside0.mk hown1
          have HGR := Aside0.mk hgrow
          have HAT := Aside0.mk hat
          clear hown1 hgrow hat
          go_wp2_with fail
          go_roundg g3
          case measure => omega
          case rel =>
            refine ⟨j + 1, rfl, HJ.out, Aside0.mk ?_, Aside0.mk ⟨.inr ?_⟩⟩
            · rw [HGL.out]
              refine (HG.out.below (below_alloc (Below.refl _ _) _)).grown HGR.out ?_
              have ho := HO1.out
              unfold OwnM
              rw [flatM_append, List.length_append]
              exact ho
            · obtain ⟨g2', hg2, k1, k2, k3⟩ := HAL.out.at hjl
              simp only [Option.some.injEq, Addr.mk.injEq, and_true] at hg2
              subst hg2
              have hsz := HGR.out.size
              have hk : g' < (w3.alloc (Obj.cells #[Value.int IntKind.i64 i, Value.int IntKind.i64 x] 42)).heap.size := by simp; omega
              refine ⟨g', rfl, by omega, fun he => ?_, fun y hy => (HGR.out.cell_far ⟨g', y, none⟩ hk (Ne.symm k2)).trans ?_⟩
              · simp only [Value.ownBlock, Option.some.injEq] at he
                rcases HAT.out with h | h
                · rw [h, he] at k2; exact k2 rfl
                · omega
              · exact below_cell (below_alloc (Below.refl _ _) _) _ _ _ (k3 y hy)
end Go.Proofs.Ytcanbidenhcohaa.K

/- Walks: pseudo.Moves, Captures. -/
namespace Go.Proofs.Ytcanbidenhcohaa.K
open Go.RowKit Go.Lib Go.Proofs.YtcanbidenhcohaaW.PrintWords Go.Proofs.Ytcanbidenhcohaa.Sp
set_option linter.unusedVariables false
set_option linter.unusedSimpArgs false
theorem moves1_c (W : World) (x : Nat) (hx : x < 256) : Calls Try.prog 64 #[.int .u8 (x : Int)] W fun e w' => e = .returned (.bool ((fun _ => true) x)) ∧ w' = W := by
  go_enter Try.func64, Try.ntmps64
  go_wp2_with fail
  go_ret
  exact ⟨rfl, rfl⟩
theorem captures1_c (W : World) (x : Nat) (hx : x < 256) : Calls Try.prog 68 #[.int .u8 (x : Int)] W fun e w' => e = .returned (.bool ((fun x => x != 46) x)) ∧ w' = W := by
  go_enter Try.func68, Try.ntmps68
  go_wp2_with fail
  go_ret
  refine ⟨ret_bool ?_, rfl⟩
  rw [Bool.eq_iff_iff]; simp; try omega
set_option maxRecDepth 100000 in
set_option maxHeartbeats 1000000 in
theorem moves_c (p : Pos) (w : World) : Calls Try.prog 31 #[posV p] w fun e w' => ∃ v, e = .returned v ∧ OwnM w' w.heap.size v (gathP p (fun _ => true)) ∧ Below w.heap.size w w' := by
  have HG := Aside0.mk (fun W => gather_c p 64 (fun _ => true) moves1_c (fun _ _ => by rfl) W)
  have hu := Try.underlying38
  go_enter Try.func31, Try.ntmps31
  go_wp2_with fail
  refine (HG.out _).mono ?_
  rintro e w1 ⟨v, rfl, h1, h2⟩
  have HR : Aside0 (OwnM w1 w.heap.size v (gathP p (fun _ => true)) ∧ Below w.heap.size w w1) := ⟨h1.lower (by simp), (below_alloc (Below.refl w.heap.size w) _).trans (h2.mono (by simp))⟩
  clear h1 h2
  go_wp2_with fail
  go_ret
  exact ⟨v, rfl, HR.out.1, HR.out.2⟩
set_option maxRecDepth 100000 in
set_option maxHeartbeats 1000000 in
theorem captures_c (p : Pos) (w : World) : Calls Try.prog 40 #[posV p] w fun e w' => ∃ v, e = .returned v ∧ OwnM w' w.heap.size v (gathP p (fun x => x != 46)) ∧ Below w.heap.size w w' := by
  have HG := Aside0.mk (fun W => gather_c p 68 (fun x => x != 46) captures1_c (fun _ _ => by rfl) W)
  have hu := Try.underlying38
  go_enter Try.func40, Try.ntmps40
  go_wp2_with fail
  refine (HG.out _).mono ?_
  rintro e w1 ⟨v, rfl, h1, h2⟩
  have HR : Aside0 (OwnM w1 w.heap.size v (gathP p (fun x => x != 46)) ∧ Below w.heap.size w w1) := ⟨h1.lower (by simp), (below_alloc (Below.refl w.heap.size w) _).trans (h2.mono (by simp))⟩
  clear h1 h2
  go_wp2_with fail
  go_ret
  exact ⟨v, rfl, HR.out.1, HR.out.2⟩
end Go.Proofs.Ytcanbidenhcohaa.K

/- Walks: slices.Contains over numbers of one's own. -/
namespace Go.Proofs.Ytcanbidenhcohaa.K
open Go.RowKit Go.Lib Go.Proofs.YtcanbidenhcohaaW.PrintWords Go.Proofs.Ytcanbidenhcohaa.Sp
set_option linter.unusedVariables false
set_option linter.unusedSimpArgs false
/-- Where a number is first, or -1. -/
def idxL (l : List Nat) (x : Int) : Int := if (x ∈ l.map (fun (n : Nat) => (n : Int))) then 0 else -1
set_option maxRecDepth 100000 in
set_option maxHeartbeats 1000000 in
theorem indexI_c (w : World) (B : Nat) (v : Value) (l : List Nat) (x : Int) (h : IntsAt w B v l) (hl : l.length ≤ 1000000) :
    Calls Try.prog 80 #[v, .int .i64 x] w fun e w' => ∃ y : Int, e = .returned (.int .i64 y) ∧ w' = w ∧ (0 ≤ y ↔ ∃ n ∈ l, (n : Int) = x) := by
  obtain ⟨A, cap, rfl, hcap, hA⟩ := h.out
  have HA := Aside0.mk hA
  have HL := Aside0.mk hl
  clear hA hcap h
  have hl1 : (l.length : Int) ≤ 1000000 := by omega
  clear hl
  go_enter Try.func80, Try.ntmps80
  go_wp2_with fail
  go_loopg [8] l.length (fun gg s8 wr => ∃ i : Nat, s8 = .int .i64 i ∧ i + gg = l.length ∧ wr = w ∧ Aside0 (∀ j (hj : j < l.length), j < i → (l[j] : Int) ≠ x))
  case atStart => exact ⟨0, rfl, by omega, rfl, ⟨fun j hj h => by omega⟩⟩
  case round =>
    obtain ⟨i, rfl, hi, rfl, HN⟩ := hrel
    cases gk with
    | zero =>
      have hn : ¬ ((i : Int) < (l.length : Int)) := by omega
      have HI := Aside0.mk (show i = l.length by omega)
      clear hi
      go_wp2_with fail
      go_ret
      refine ⟨_, rfl, rfl, ?_⟩
      constructor
      · intro h; omega
      · rintro ⟨n, hn, rfl⟩
        obtain ⟨j, hj, rfl⟩ := List.mem_iff_getElem.1 hn
        exact absurd rfl (HN.out j hj (by have := HI.out; omega))
    | succ g =>
      have hn : ((i : Int) < (l.length : Int)) := by omega
      have hil : i < l.length := by omega
      have HI := Aside0.mk (show i + 1 + g = l.length by omega)
      rcases HA.out with h0 | ⟨b, rfl, hb1, hb2, hb3⟩
      · subst h0; simp at hil
      have ci := hb3 i hil
      clear hi hb1 hb2 hb3
      cases hx : (x == (l[i] : Int))
      case true =>
        go_wp2_with fail
        go_ret
        refine ⟨_, rfl, rfl, ?_⟩
        have := beq_iff_eq.1 hx
        exact ⟨fun _ => ⟨l[i], List.getElem_mem hil, this.symm⟩, fun _ => by omega⟩
      case false =>
        go_wp2_with fail
        go_roundg g
        case measure => omega
        case rel =>
          refine ⟨i + 1, rfl, HI.out, rfl, ⟨fun j hj h => ?_⟩⟩
          rcases Nat.lt_or_ge j i with h1 | h1
          · exact HN.out j hj h1
          · have : j = i := by omega
            subst this
            intro he
            rw [he] at hx
            simp at hx
theorem containsI_c (w : World) (B : Nat) (v : Value) (l : List Nat) (x : Int) (h : IntsAt w B v l) (hl : l.length ≤ 1000000) :
    Calls Try.prog 50 #[v, .int .i64 x] w fun e w' => e = .returned (.bool (l.any (fun n => (n : Int) == x))) ∧ w' = w := by
  have HX := Aside0.mk (indexI_c w B v l x h hl)
  clear h hl
  go_enter Try.func50, Try.ntmps50
  go_wp2_with fail
  refine HX.out.mono ?_
  rintro e w' ⟨y, rfl, rfl, hy⟩
  have HY := Aside0.mk hy
  clear hy
  go_wp2_with fail
  go_ret
  refine ⟨ret_bool ?_, rfl⟩
  have := HY.out
  rw [Bool.eq_iff_iff]
  simp only [decide_eq_true_eq, List.any_eq_true, beq_iff_eq]
  exact HY.out
end Go.Proofs.Ytcanbidenhcohaa.K

/- Walk: pseudo.Apply. -/
namespace Go.Proofs.Ytcanbidenhcohaa.K
open Go.RowKit Go.Lib Go.Proofs.YtcanbidenhcohaaW.PrintWords Go.Proofs.Ytcanbidenhcohaa.Sp
set_option linter.unusedVariables false
set_option linter.unusedSimpArgs false
attribute [local go_sem] cel_get   -- for this text's walks alone
/-- A block of bytes of the call's own. -/
def BytesAt (W : World) (g : Nat) (xs : List Int) : Prop := ∀ i, i < xs.length → W.cell? ⟨g, i, none⟩ = some (.int .u8 (xs.getD i 0)) ∧ W.frozen? ⟨g, i, none⟩ = false
theorem bytes_at_new (w : World) (e : TypeId) (s : ByteArray) : BytesAt (Lib.bytesWorld w e s) w.heap.size (bytesOf s) := by
  intro i hi
  rw [bytesOf_length] at hi
  have hcl : (Lib.bytesCells w e s).size ≥ s.size := by
    have h := Lib.bytesWorld_cell w e s (s.size - 1) (by omega)
    have hn := Lib.bytesWorld_at_new w e s
    unfold World.cell? at h
    rw [hn] at h
    by_cases hlt : s.size - 1 < (Lib.bytesCells w e s).size
    · omega
    · simp [Array.getElem?_eq_none (Nat.le_of_not_lt hlt)] at h
  refine ⟨(Lib.bytesWorld_cell w e s i hi).trans ?_, ?_⟩
  · have h' : i < s.data.toList.length := by rw [data_length]; exact hi
    simp [bytesOf, List.getD_eq_getElem?_getD, List.getElem?_eq_getElem h']
  · have hn := Lib.bytesWorld_at_new w e s
    simp [World.frozen?, hn]
    omega
theorem BytesAt.set {W : World} {g : Nat} {xs : List Int} (h : BytesAt W g xs) (i : Nat) (v : Int) : BytesAt (W.setCell ⟨g, i, none⟩ (.int .u8 v)) g (xs.set i v) := by
  intro j hj
  rw [List.length_set] at hj
  obtain ⟨h1, h2⟩ := h j hj
  refine ⟨?_, by rw [World.frozen?_setCell]; exact h2⟩
  by_cases hij : i = j
  · subst hij
    rw [World.cell?_setCell_same' _ _ _ (by rw [h1]; rfl)]
    simp [List.getD_eq_getElem?_getD, hj]
  · rw [World.cell?_setCell_other _ _ _ _ (by intro e; injection e with _ e _; exact hij e), h1]
    simp [List.getD_eq_getElem?_getD, List.getElem?_set_ne hij]
theorem BytesAt.below {W W1 : World} {g : Nat} {xs : List Int} (h : BytesAt W g xs) (hg : g < W.heap.size) (hb : Below W.heap.size W W1) : BytesAt W1 g xs :=
  fun i hi => ⟨(hb.cell (p := ⟨g, i, none⟩) hg).trans (h i hi).1, (hb.frozen (p := ⟨g, i, none⟩) hg).trans (h i hi).2⟩
theorem bytes_string {W : World} {g cap : Nat} {xs : List Int} (h : BytesAt W g xs) (src : TypeId) (hs : Try.prog.underlying src = some (.slice 5)) : (convert src 9 (.slice (some ⟨g, 0, none⟩) xs.length cap)).run Try.prog W = .ok (.string (strOfNums xs)) W :=
  run_convert_bytes_arg W src 5 hs Try.underlying5 g 0 xs.length cap xs rfl (fun i hi => by rw [Nat.zero_add]; exact (h i hi).1) 9 Try.underlying9
/-- A board behind a move. -/
def movedB (s : ByteArray) (a b : Nat) : ByteArray := strOfNums (((bytesOf s).set b (cel s a)).set a 46)
/-- A move's numbers. -/
structure Mvi where
  frm : Int
  dest : Int
abbrev mviV (m : Mvi) : Value := .agg #[.int .i64 m.frm, .int .i64 m.dest]
/-- May a move be applied to a position that is right? -/
def goodM (p : Pos) (m : Mvi) : Bool := sideN (atS p.cells m.frm) == p.side && (kindN (atS p.cells m.dest) != 75 && (allS p.cells m.frm).any (fun n => (n : Int) == m.dest))
def zeroP : Pos := ⟨ByteArray.empty, 0, 0, 0⟩
/-- Behind a move; what was taken; or why there is none. -/
def applyP (p : Pos) (m : Mvi) : Pos × Nat × Int :=
  if checkP p ≠ 0 then (zeroP, 0, checkP p) else
  if goodM p m = false then (zeroP, 0, 7) else
  (⟨movedB p.cells m.frm.toNat m.dest.toNat, 1 - p.side, if atS p.cells m.dest = 46 then min (p.clock + 1) 120 else 0, if p.side = 1 then min (p.full + 1) 9999 else p.full⟩, if atS p.cells m.dest = 46 then 0 else atS p.cells m.dest, 0)
def ApplyIs (w : World) (p : Pos) (m : Mvi) (e : Ending) (w' : World) : Prop :=
  e = .returned (.tuple #[posV (applyP p m).1, .int .u8 ((applyP p m).2.1 : Int), .int .i64 (applyP p m).2.2]) ∧ Below w.heap.size w w'
/-- The boxes of Apply's arguments and result. -/
structure ApAt (w0 W : World) (p : Pos) (m : Mvi) : Prop where
  c0 : W.cell? ⟨w0.heap.size, 0, none⟩ = some (.string p.cells)
  c1 : W.cell? ⟨w0.heap.size, 1, none⟩ = some (.int .i64 p.side)
  c2 : W.cell? ⟨w0.heap.size, 2, none⟩ = some (.int .i64 p.clock)
  c3 : W.cell? ⟨w0.heap.size, 3, none⟩ = some (.int .i64 p.full)
  d0 : W.cell? ⟨w0.heap.size + 1, 0, none⟩ = some (.int .i64 m.frm)
  d1 : W.cell? ⟨w0.heap.size + 1, 1, none⟩ = some (.int .i64 m.dest)
  r0 : W.cell? ⟨w0.heap.size + 1 + 1, 0, none⟩ = some (.string ByteArray.empty)
  r1 : W.cell? ⟨w0.heap.size + 1 + 1, 1, none⟩ = some (.int .i64 0)
  r2 : W.cell? ⟨w0.heap.size + 1 + 1, 2, none⟩ = some (.int .i64 0)
  r3 : W.cell? ⟨w0.heap.size + 1 + 1, 3, none⟩ = some (.int .i64 0)
  fp : ∀ k, W.frozen? ⟨w0.heap.size, k, none⟩ = false
  fr : ∀ k, W.frozen? ⟨w0.heap.size + 1 + 1, k, none⟩ = false
  bel : Below w0.heap.size w0 W
  lt : w0.heap.size + 2 < W.heap.size
theorem ApAt.below {w0 W W' : World} {p : Pos} {m : Mvi} (h : ApAt w0 W p m) (hb : Below W.heap.size W W') : ApAt w0 W' p m :=
  ⟨below_cell hb _ _ _ h.c0, below_cell hb _ _ _ h.c1, below_cell hb _ _ _ h.c2, below_cell hb _ _ _ h.c3, below_cell hb _ _ _ h.d0, below_cell hb _ _ _ h.d1, below_cell hb _ _ _ h.r0, below_cell hb _ _ _ h.r1, below_cell hb _ _ _ h.r2, below_cell hb _ _ _ h.r3, fun k => (hb.frozen (p := ⟨w0.heap.size, k, none⟩) (by have := h.lt; show w0.heap.size < _; omega)).trans (h.fp k), fun k => (hb.frozen (p := ⟨w0.heap.size + 1 + 1, k, none⟩) (by have := h.lt; show w0.heap.size + 1 + 1 < _; omega)).trans (h.fr k), h.bel.trans (hb.mono h.bel.size), Nat.lt_of_lt_of_le h.lt hb.size⟩
theorem apat_new (w : World) (p : Pos) (m : Mvi) : ApAt w (((w.alloc (.cells #[.string p.cells, .int .i64 p.side, .int .i64 p.clock, .int .i64 p.full] 38)).alloc (.cells #[.int .i64 m.frm, .int .i64 m.dest] 42)).alloc (.cells #[.string ByteArray.empty, .int .i64 0, .int .i64 0, .int .i64 0] 38)) p m := by
  refine ⟨?_, ?_, ?_, ?_, ?_, ?_, ?_, ?_, ?_, ?_, fun k => (Below.frozen (below_alloc (below_alloc (Below.refl _ _) _) _) (p := ⟨w.heap.size, k, none⟩) (by simp)).trans (by simp [World.frozen?_alloc_at]), fun k => by simp [World.frozen?_alloc_at], below_alloc (below_alloc (below_alloc (Below.refl _ _) _) _) _, by simp⟩ <;> first | (simp [World.cell?_alloc_at, World.cell?_alloc_past]; done) | exact below_cell (below_alloc (Below.refl _ _) _) _ _ _ (below_cell (below_alloc (Below.refl _ _) _) _ _ _ (by simp [World.cell?_alloc_at]; done))
theorem ApAt.drew {w0 W : World} {p : Pos} {m : Mvi} (h : ApAt w0 W p m) : ApAt w0 W.drew p m := h.below (pw_below_drewN (Below.refl _ _) 1)
set_option maxRecDepth 100000 in
set_option maxHeartbeats 4000000 in
theorem apply_no (p : Pos) (m : Mvi) (w : World) (hck : checkP p ≠ 0) : Calls Try.prog 32 #[posV p, mviV m] w (ApplyIs w p m) := by
  have HCK := Aside0.mk (fun W => check_c p W)
  have hu := Try.underlying38
  have hu2 := Try.underlying42
  have HR := Aside0.mk (show applyP p m = (zeroP, 0, checkP p) by unfold applyP; rw [if_pos hck])
  have h2 : (checkP p != 0) = true := by simpa using hck
  clear hck
  generalize checkP p = ck at *
  go_enter Try.func32, Try.ntmps32
  go_wp2_with fail
  refine (HCK.out _).mono ?_
  rintro e w1 ⟨rfl, hb⟩
  have HA := Aside0.mk ((apat_new w p m).below hb)
  clear hb
  have fr := HA.out.fr
  have r0 := HA.out.r0
  have r1 := HA.out.r1
  have r2 := HA.out.r2
  have r3 := HA.out.r3
  go_wp2_with fail
  refine bodyPost_ret (by simp [results, Try.results32, go_sem, r0, r1, r2, r3]; try rfl) rfl ?_
  exact ⟨by rw [HR.out]; rfl, by (repeat' (first | (with_reducible exact Below.refl _ _) | (with_reducible refine pw_below_drewN ?_ _) | (with_reducible refine below_alloc ?_ _) | (with_reducible refine Below.drew ?_) | (with_reducible refine Below.setCell ?_ ?_ _) | (simp; done))) <;> first | exact HA.out.bel | (simp; done) | (simp; omega)⟩
set_option maxRecDepth 100000 in
set_option maxHeartbeats 4000000 in
theorem apply_bad (p : Pos) (m : Mvi) (w : World) (hck : checkP p = 0) (hg : goodM p m = false) : Calls Try.prog 32 #[posV p, mviV m] w (ApplyIs w p m) := by
  have HCK := Aside0.mk (fun W => check_c p W)
  have hu := Try.underlying38
  have hu2 := Try.underlying42
  have HR := Aside0.mk (show applyP p m = (zeroP, 0, 7) by unfold applyP; rw [if_neg (by simpa using hck), if_pos hg])
  have HF := Aside0.mk (fun W => at_c p.cells m.frm W)
  have HD := Aside0.mk (fun W => at_c p.cells m.dest W)
  have HALL := Aside0.mk (fun W => all_c p.cells m.frm W)
  have HX := Aside0.mk (show atS p.cells m.frm < 256 by unfold atS; split; exact cel_lt _ _; omega)
  have HY := Aside0.mk (show atS p.cells m.dest < 256 by unfold atS; split; exact cel_lt _ _; omega)
  have HL := Aside0.mk (show (allS p.cells m.frm).length ≤ 1000000 by unfold allS; split; exact Nat.le_trans (allN_len _ _) (by omega); simp)
  unfold goodM at hg
  rw [hck] at HCK
  clear hck
  generalize atS p.cells m.frm = x at *
  generalize atS p.cells m.dest = y at *
  generalize allS p.cells m.frm = l at *
  have HS := Aside0.mk (fun W => side_c x HX.out W)
  have HK := Aside0.mk (fun W => kind_c y HY.out W)
  cases h1 : (sideN x == p.side)
  case false =>
    clear hg
    go_enter Try.func32, Try.ntmps32
    go_wp2_with fail
    refine (HCK.out _).mono ?_
    rintro e w1 ⟨rfl, hb⟩
    have HA := Aside0.mk ((apat_new w p m).below hb)
    clear hb
    have c0 := HA.out.c0
    have c1 := HA.out.c1
    have d0 := HA.out.d0
    go_wp2_with fail
    go_region_held3 (fun W => W.cell? ⟨w.heap.size, 0, none⟩ = some (.string p.cells) ∧ W.cell? ⟨w.heap.size, 1, none⟩ = some (.int .i64 p.side) ∧ W.cell? ⟨w.heap.size + 1, 0, none⟩ = some (.int .i64 m.frm)) (go_keep)
      (first
        | (go_at_call 23; refine (HF.out _).mono ?_; rintro e w2 ⟨rfl, hb⟩; have HA2 := Aside0.mk (HA.out.drew.below hb); have c0' := HA2.out.c0; have c1' := HA2.out.c1; have d0' := HA2.out.d0; clear hb)
        | (go_at_call 22; refine (HS.out _).mono ?_; rintro e w3 ⟨rfl, rfl⟩))
    clear HA c0 c1 d0 c1' d0'
    have d1 := HA2.out.d1
    go_wp2_with fail
    refine (HD.out _).mono ?_
    rintro e w4 ⟨rfl, hb⟩
    have HA := Aside0.mk (HA2.out.below hb)
    clear hb HA2 c0' d1
    go_wp2_with fail
    go_quiet (fail)
    have HA1 := Aside0.mk (HA.out.below (pw_below_drewN (Below.refl _ _) nq))
    have fr := HA1.out.fr
    have r0 := HA1.out.r0
    have r1 := HA1.out.r1
    have r2 := HA1.out.r2
    have r3 := HA1.out.r3
    generalize w4.drewN nq = w5 at *
    go_wp2_with fail
    refine bodyPost_ret (by simp [results, Try.results32, go_sem, r0, r1, r2, r3]; try rfl) rfl ?_
    exact ⟨by rw [HR.out]; rfl, by (repeat' (first | (with_reducible exact Below.refl _ _) | (with_reducible refine pw_below_drewN ?_ _) | (with_reducible refine below_alloc ?_ _) | (with_reducible refine Below.drew ?_) | (with_reducible refine Below.setCell ?_ ?_ _) | (simp; done))) <;> first | exact HA1.out.bel | (simp; done) | (simp; omega)⟩
  case true =>
  cases h2 : (kindN y == 75)
  case true =>
    have hk : (((kindN y : Nat) : Int) == 75) = true := by rw [beq_iff_eq] at *; omega
    clear hg
    go_enter Try.func32, Try.ntmps32
    go_wp2_with fail
    refine (HCK.out _).mono ?_
    rintro e w1 ⟨rfl, hb⟩
    have HA := Aside0.mk ((apat_new w p m).below hb)
    clear hb
    have c0 := HA.out.c0
    have c1 := HA.out.c1
    have d0 := HA.out.d0
    go_wp2_with fail
    go_region_held3 (fun W => W.cell? ⟨w.heap.size, 0, none⟩ = some (.string p.cells) ∧ W.cell? ⟨w.heap.size, 1, none⟩ = some (.int .i64 p.side) ∧ W.cell? ⟨w.heap.size + 1, 0, none⟩ = some (.int .i64 m.frm)) (go_keep)
      (first
        | (go_at_call 23; refine (HF.out _).mono ?_; rintro e w2 ⟨rfl, hb⟩; have HA2 := Aside0.mk (HA.out.drew.below hb); have c0' := HA2.out.c0; have c1' := HA2.out.c1; have d0' := HA2.out.d0; clear hb)
        | (go_at_call 22; refine (HS.out _).mono ?_; rintro e w3 ⟨rfl, rfl⟩))
    clear HA c0 c1 d0 c1' d0'
    have d1 := HA2.out.d1
    go_wp2_with fail
    refine (HD.out _).mono ?_
    rintro e w4 ⟨rfl, hb⟩
    have HA := Aside0.mk (HA2.out.below hb)
    clear hb HA2 c0' d1
    go_wp2_with fail
    go_quiet (first | (go_at_call 24; exact Calls.quiet_of_same (HK.out _)))
    have HA1 := Aside0.mk (HA.out.below (pw_below_drewN (Below.refl _ _) nq))
    have fr := HA1.out.fr
    have r0 := HA1.out.r0
    have r1 := HA1.out.r1
    have r2 := HA1.out.r2
    have r3 := HA1.out.r3
    generalize w4.drewN nq = w5 at *
    go_wp2_with fail
    refine bodyPost_ret (by simp [results, Try.results32, go_sem, r0, r1, r2, r3]; try rfl) rfl ?_
    exact ⟨by rw [HR.out]; rfl, by (repeat' (first | (with_reducible exact Below.refl _ _) | (with_reducible refine pw_below_drewN ?_ _) | (with_reducible refine below_alloc ?_ _) | (with_reducible refine Below.drew ?_) | (with_reducible refine Below.setCell ?_ ?_ _) | (simp; done))) <;> first | exact HA1.out.bel | (simp; done) | (simp; omega)⟩
  case false =>
    have h3 : l.any (fun n => (n : Int) == m.dest) = false := by rw [h1] at hg; simp only [bne, h2, Bool.true_and, Bool.not_false] at hg; exact hg
    have hk : (((kindN y : Nat) : Int) == 75) = false := by rw [beq_eq_false_iff_ne] at *; omega
    clear hg
    go_enter Try.func32, Try.ntmps32
    go_wp2_with fail
    refine (HCK.out _).mono ?_
    rintro e w1 ⟨rfl, hb⟩
    have HA := Aside0.mk ((apat_new w p m).below hb)
    clear hb
    have c0 := HA.out.c0
    have c1 := HA.out.c1
    have d0 := HA.out.d0
    go_wp2_with fail
    go_region_held3 (fun W => W.cell? ⟨w.heap.size, 0, none⟩ = some (.string p.cells) ∧ W.cell? ⟨w.heap.size, 1, none⟩ = some (.int .i64 p.side) ∧ W.cell? ⟨w.heap.size + 1, 0, none⟩ = some (.int .i64 m.frm)) (go_keep)
      (first
        | (go_at_call 23; refine (HF.out _).mono ?_; rintro e w2 ⟨rfl, hb⟩; have HA2 := Aside0.mk (HA.out.drew.below hb); have c0' := HA2.out.c0; have c1' := HA2.out.c1; have d0' := HA2.out.d0; clear hb)
        | (go_at_call 22; refine (HS.out _).mono ?_; rintro e w3 ⟨rfl, rfl⟩))
    clear HA c0 c1 d0 c1' d0'
    have d1 := HA2.out.d1
    go_wp2_with fail
    refine (HD.out _).mono ?_
    rintro e w4 ⟨rfl, hb⟩
    have HA := Aside0.mk (HA2.out.below hb)
    clear hb HA2 c0' d1
    have c0 := HA.out.c0
    have d0 := HA.out.d0
    have d1 := HA.out.d1
    go_wp2_with fail
    go_region_held3 (fun W => W.cell? ⟨w.heap.size, 0, none⟩ = some (.string p.cells) ∧ W.cell? ⟨w.heap.size + 1, 0, none⟩ = some (.int .i64 m.frm) ∧ W.cell? ⟨w.heap.size + 1, 1, none⟩ = some (.int .i64 m.dest)) (go_keep)
      (first
        | (go_at_call 24; refine (HK.out _).mono ?_; rintro e w5 ⟨rfl, rfl⟩)
        | (go_at_call 15; refine (HALL.out _).mono ?_; rintro e w6 ⟨v, rfl, hv, hb⟩; have HA6 := Aside0.mk (HA.out.drew.below hb); have HV := Aside0.mk hv; have c0' := HA6.out.c0; have d0' := HA6.out.d0; have d1' := HA6.out.d1; clear hb hv)
        | (go_at_call 50; refine (containsI_c _ _ _ _ _ HV.out HL.out).mono ?_; rw [h3]; rintro e w7 ⟨rfl, rfl⟩))
    clear c0 d0 d1 c0' d0' d1'
    have fr := HA6.out.fr
    have r0 := HA6.out.r0
    have r1 := HA6.out.r1
    have r2 := HA6.out.r2
    have r3 := HA6.out.r3
    go_wp2_with fail
    refine bodyPost_ret (by simp [results, Try.results32, go_sem, r0, r1, r2, r3]; try rfl) rfl ?_
    exact ⟨by rw [HR.out]; rfl, by (repeat' (first | (with_reducible exact Below.refl _ _) | (with_reducible refine pw_below_drewN ?_ _) | (with_reducible refine below_alloc ?_ _) | (with_reducible refine Below.drew ?_) | (with_reducible refine Below.setCell ?_ ?_ _) | (simp; done))) <;> first | exact HA6.out.bel | (simp; done) | (simp; omega)⟩
end Go.Proofs.Ytcanbidenhcohaa.K

/- Walk: pseudo.Apply, where it is done. -/
namespace Go.Proofs.Ytcanbidenhcohaa.K
open Go.RowKit Go.Lib Go.Proofs.YtcanbidenhcohaaW.PrintWords Go.Proofs.Ytcanbidenhcohaa.Sp
set_option linter.unusedVariables false
set_option linter.unusedSimpArgs false
attribute [local go_sem] cel_get   -- for this text's walks alone
theorem ApAt.upto {w0 W W' : World} {p : Pos} {m : Mvi} {n : Nat} (h : ApAt w0 W p m) (hn : w0.heap.size + 1 + 1 < n) (hb : Below n W W') : ApAt w0 W' p m :=
  ⟨(hb.cell (p := ⟨w0.heap.size, 0, none⟩) (by show w0.heap.size < n; omega)).trans h.c0, (hb.cell (p := ⟨w0.heap.size, 1, none⟩) (by show w0.heap.size < n; omega)).trans h.c1, (hb.cell (p := ⟨w0.heap.size, 2, none⟩) (by show w0.heap.size < n; omega)).trans h.c2, (hb.cell (p := ⟨w0.heap.size, 3, none⟩) (by show w0.heap.size < n; omega)).trans h.c3, (hb.cell (p := ⟨w0.heap.size + 1, 0, none⟩) (by show w0.heap.size + 1 < n; omega)).trans h.d0, (hb.cell (p := ⟨w0.heap.size + 1, 1, none⟩) (by show w0.heap.size + 1 < n; omega)).trans h.d1, (hb.cell (p := ⟨w0.heap.size + 1 + 1, 0, none⟩) (by show w0.heap.size + 1 + 1 < n; omega)).trans h.r0, (hb.cell (p := ⟨w0.heap.size + 1 + 1, 1, none⟩) (by show w0.heap.size + 1 + 1 < n; omega)).trans h.r1, (hb.cell (p := ⟨w0.heap.size + 1 + 1, 2, none⟩) (by show w0.heap.size + 1 + 1 < n; omega)).trans h.r2, (hb.cell (p := ⟨w0.heap.size + 1 + 1, 3, none⟩) (by show w0.heap.size + 1 + 1 < n; omega)).trans h.r3, fun k => (hb.frozen (p := ⟨w0.heap.size, k, none⟩) (by show w0.heap.size < n; omega)).trans (h.fp k), fun k => (hb.frozen (p := ⟨w0.heap.size + 1 + 1, k, none⟩) (by show w0.heap.size + 1 + 1 < n; omega)).trans (h.fr k), h.bel.trans (hb.mono (by omega)), Nat.lt_of_lt_of_le h.lt hb.size⟩
theorem bytes_getD (s : ByteArray) (i : Nat) (h : i < s.size) : (bytesOf s).getD i 0 = (cel s i : Int) := by
  have h' : i < s.data.toList.length := by rw [data_length]; exact h
  rw [← cel_get s i h]
  simp [bytesOf, List.getD_eq_getElem?_getD, List.getElem?_eq_getElem h']
  rfl
theorem good_parts {p : Pos} {m : Mvi} (h : goodM p m = true) : (sideN (atS p.cells m.frm) == p.side) = true ∧ (kindN (atS p.cells m.dest) == 75) = false ∧ (allS p.cells m.frm).any (fun n => (n : Int) == m.dest) = true ∧ isBoard p.cells = true ∧ (0 ≤ m.frm ∧ m.frm < 90) ∧ (0 ≤ m.dest ∧ m.dest < 90) := by
  unfold goodM at h
  simp only [Bool.and_eq_true, bne, Bool.not_eq_true'] at h
  obtain ⟨h1, h2, h3⟩ := h
  refine ⟨h1, h2, h3, ?_⟩
  obtain ⟨n, hn, he⟩ := List.any_eq_true.1 h3
  rw [beq_iff_eq] at he
  unfold allS at hn
  split at hn
  · rename_i hb
    have := allN_lt _ _ n hn
    exact ⟨hb.1, hb.2, by omega, by omega⟩
  · simp at hn
set_option maxRecDepth 100000 in
set_option maxHeartbeats 4000000 in
theorem apply_ok (p : Pos) (m : Mvi) (w : World) (hck : checkP p = 0) (hg : goodM p m = true) : Calls Try.prog 32 #[posV p, mviV m] w (ApplyIs w p m) := by
  obtain ⟨h1, h2, h3, hb, hf, hd⟩ := good_parts hg
  obtain ⟨m1, m2⟩ := m
  simp only at hf hd h1 h2 h3
  obtain ⟨a, rfl⟩ := Int.eq_ofNat_of_zero_le hf.1
  obtain ⟨b, rfl⟩ := Int.eq_ofNat_of_zero_le hd.1
  have hf1 := hf.2
  have hd1 := hd.2
  clear hf hd
  have HCK := Aside0.mk (fun W => check_c p W)
  have hu := Try.underlying38
  have hu2 := Try.underlying42
  have HR := Aside0.mk (show applyP p ⟨a, b⟩ = (⟨movedB p.cells a b, 1 - p.side, if atS p.cells (b : Int) = 46 then min (p.clock + 1) 120 else 0, if p.side = 1 then min (p.full + 1) 9999 else p.full⟩, if atS p.cells (b : Int) = 46 then 0 else atS p.cells (b : Int), 0) by unfold applyP; rw [if_neg (by simpa using hck), if_neg (by simpa using hg)]; rfl)
  have HF := Aside0.mk (fun W => at_c p.cells (a : Int) W)
  have HD := Aside0.mk (fun W => at_c p.cells (b : Int) W)
  have HALL := Aside0.mk (fun W => all_c p.cells (a : Int) W)
  have HX := Aside0.mk (show atS p.cells (a : Int) < 256 by unfold atS; split; exact cel_lt _ _; omega)
  have HY := Aside0.mk (show atS p.cells (b : Int) < 256 by unfold atS; split; exact cel_lt _ _; omega)
  have HL := Aside0.mk (show (allS p.cells (a : Int)).length ≤ 1000000 by unfold allS; split; exact Nat.le_trans (allN_len _ _) (by omega); simp)
  have HSZ := Aside0.mk (board_size hb)
  have HBD := Aside0.mk hb
  have hat : argOk p = true := by
    unfold checkP at hck
    cases ha : argOk p
    · rw [ha] at hck; simp at hck
    · rfl
  obtain ⟨_, hside, q1, q2, q3, q4⟩ := argOk_yes hat
  have HSIDE := Aside0.mk hside
  clear hg hb hat hside
  rw [hck] at HCK
  clear hck
  generalize atS p.cells (a : Int) = x at *
  generalize atS p.cells (b : Int) = y at *
  generalize allS p.cells (a : Int) = l at *
  have HS := Aside0.mk (fun W => side_c x HX.out W)
  have HK := Aside0.mk (fun W => kind_c y HY.out W)
  have hk : (((kindN y : Nat) : Int) == 75) = false := by rw [beq_eq_false_iff_ne] at *; omega
  go_enter Try.func32, Try.ntmps32
  go_wp2_with fail
  refine (HCK.out _).mono ?_
  rintro e w1 ⟨rfl, hb⟩
  have HA := Aside0.mk ((apat_new w p ⟨a, b⟩).below hb)
  clear hb
  have c0 := HA.out.c0
  have c1 := HA.out.c1
  have d0 := HA.out.d0
  go_wp2_with fail
  go_region_held3 (fun W => W.cell? ⟨w.heap.size, 0, none⟩ = some (.string p.cells) ∧ W.cell? ⟨w.heap.size, 1, none⟩ = some (.int .i64 p.side) ∧ W.cell? ⟨w.heap.size + 1, 0, none⟩ = some (.int .i64 (a : Int))) (go_keep)
    (first
      | (go_at_call 23; refine (HF.out _).mono ?_; rintro e w2 ⟨rfl, hb⟩; have HA2 := Aside0.mk (HA.out.drew.below hb); have c0' := HA2.out.c0; have c1' := HA2.out.c1; have d0' := HA2.out.d0; clear hb)
      | (go_at_call 22; refine (HS.out _).mono ?_; rintro e w3 ⟨rfl, rfl⟩))
  clear HA c0 c1 d0 c1' d0'
  have d1 := HA2.out.d1
  go_wp2_with fail
  refine (HD.out _).mono ?_
  rintro e w4 ⟨rfl, hb⟩
  have HA := Aside0.mk (HA2.out.below hb)
  clear hb HA2 c0' d1
  have c0 := HA.out.c0
  have d0 := HA.out.d0
  have d1 := HA.out.d1
  go_wp2_with fail
  go_region_held3 (fun W => W.cell? ⟨w.heap.size, 0, none⟩ = some (.string p.cells) ∧ W.cell? ⟨w.heap.size + 1, 0, none⟩ = some (.int .i64 (a : Int)) ∧ W.cell? ⟨w.heap.size + 1, 1, none⟩ = some (.int .i64 (b : Int))) (go_keep)
    (first
      | (go_at_call 24; refine (HK.out _).mono ?_; rintro e w5 ⟨rfl, rfl⟩)
      | (go_at_call 15; refine (HALL.out _).mono ?_; rintro e w6 ⟨v, rfl, hv, hb⟩; have HA6 := Aside0.mk (HA.out.drew.below hb); have HV := Aside0.mk hv; have c0' := HA6.out.c0; have d0' := HA6.out.d0; have d1' := HA6.out.d1; clear hb hv)
      | (go_at_call 50; refine (containsI_c _ _ _ _ _ HV.out HL.out).mono ?_; rw [h3]; rintro e w7 ⟨rfl, rfl⟩))
  clear c0 d0 d1 c0' d0' d1'
  have c0 := HA6.out.c0
  have kb := fun W => print_bytes (P := Try.prog) 9 61 5 Try.underlying9 Try.underlying61 Try.underlying5 p.cells W
  go_wp2_with (simp only [kb])
  have HB := Aside0.mk (bytes_at_new w7 5 p.cells)
  have HA7 := Aside0.mk (HA6.out.below (bytes_below (Below.refl _ _) (Nat.le_refl _) 5 p.cells))
  have HLT := Aside0.mk (Lib.bytesWorld_size w7 5 p.cells)
  generalize Lib.bytesWorld w7 5 p.cells = w8 at *
  have hsz : (p.cells.size : Int) = 90 := by rw [HSZ.out]; rfl
  have d0 := HA7.out.d0
  have d1 := HA7.out.d1
  obtain ⟨ka, fa⟩ := HB.out a (by rw [bytesOf_length, HSZ.out]; omega)
  obtain ⟨kb2, fb⟩ := HB.out b (by rw [bytesOf_length, HSZ.out]; omega)
  have HXA := Aside0.mk (show (bytesOf p.cells).getD a 0 = (cel p.cells a : Int) from bytes_getD p.cells a (by rw [HSZ.out]; omega))
  rw [HXA.out] at ka
  obtain ⟨ks, fs⟩ := (HB.out.set b (cel p.cells a : Int)) a (by rw [List.length_set, bytesOf_length, HSZ.out]; omega)
  generalize ((bytesOf p.cells).set b (cel p.cells a : Int)).getD a 0 = xs at ks
  generalize hxa : cel p.cells a = xa at *
  generalize (bytesOf p.cells).getD b 0 = xb at *
  clear c0 kb
  have hne : w.heap.size + 1 ≠ w7.heap.size := by have := HA6.out.lt; omega
  go_region
  have HA9 := Aside0.mk (HA7.out.upto (n := w7.heap.size) HA6.out.lt (Below.drew (Below.setCell (p := ⟨w7.heap.size, a, none⟩) (Below.setCell (p := ⟨w7.heap.size, b, none⟩) (Below.refl _ _) (Nat.le_refl _) (.int .u8 (xa : Int))) (Nat.le_refl _) (.int .u8 46))))
  have hbs : BytesAt ((w8.setCell ⟨w7.heap.size, b, none⟩ (.int .u8 (xa : Int))).setCell ⟨w7.heap.size, a, none⟩ (.int .u8 46)).drew w7.heap.size (((bytesOf p.cells).set b (xa : Int)).set a 46) := (HB.out.set b (xa : Int)).set a 46
  have kc := bytes_string hbs 61 Try.underlying61 (cap := grownCap w7 p.cells.size 0 5)
  rw [List.length_set, List.length_set, bytesOf_length] at kc
  have HMB := Aside0.mk (show movedB p.cells a b = strOfNums (((bytesOf p.cells).set b (xa : Int)).set a 46) by unfold movedB; rw [hxa])
  rw [← HMB.out] at kc
  clear hbs HMB HB
  generalize movedB p.cells a b = mb at *
  clear d0 d1 ka fa kb2 fb ks fs hne HXA HA7
  generalize ((w8.setCell ⟨w7.heap.size, b, none⟩ (.int .u8 (xa : Int))).setCell ⟨w7.heap.size, a, none⟩ (.int .u8 46)).drew = w9 at *
  have HA := HA9
  clear HA9 HA6
  have fp := HA.out.fp
  have fr := HA.out.fr
  have r0 := HA.out.r0
  have r1 := HA.out.r1
  have r2 := HA.out.r2
  have r3 := HA.out.r3
  have c0 := HA.out.c0
  have c1 := HA.out.c1
  have c2 := HA.out.c2
  have c3 := HA.out.c3
  have hy : (((y : Nat) : Int) == 46) = (y == 46) := by rw [Bool.eq_iff_iff, beq_iff_eq, beq_iff_eq]; omega
  have hs0 : 0 ≤ p.side := by have := HSIDE.out; omega
  have hs1 : p.side ≤ 1 := by have := HSIDE.out; omega
  cases hs : (p.side == 1)
  case false =>
    have HS1 := Aside0.mk hs
    go_upto_region 15 with (simp only [kc])
    generalize hW2 : (((w9.setCell ⟨w.heap.size, 0, none⟩ (.string mb)).setCell ⟨w.heap.size, 2, none⟩ (.int .i64 (min (p.clock + 1) 120))).setCell ⟨w.heap.size, 1, none⟩ (.int .i64 (1 - p.side))) = W2
    have k0 : W2.cell? ⟨w.heap.size, 0, none⟩ = some (.string mb) := by rw [← hW2]; simp [go_sem, c0, c1, c2, c3]
    have k1 : W2.cell? ⟨w.heap.size, 1, none⟩ = some (.int .i64 (1 - p.side)) := by rw [← hW2]; simp [go_sem, c0, c1, c2, c3]
    have k2 : W2.cell? ⟨w.heap.size, 2, none⟩ = some (.int .i64 (min (p.clock + 1) 120)) := by rw [← hW2]; simp [go_sem, c0, c1, c2, c3]
    have k3 : W2.cell? ⟨w.heap.size, 3, none⟩ = some (.int .i64 (p.full)) := by rw [← hW2]; simp [go_sem, c0, c1, c2, c3]
    have HB2 : Aside0 (Below w.heap.size w W2) := Aside0.mk (by rw [← hW2]; (repeat' (first | (with_reducible exact Below.refl _ _) | (with_reducible refine pw_below_drewN ?_ _) | (with_reducible refine below_alloc ?_ _) | (with_reducible refine Below.drew ?_) | (with_reducible refine Below.setCell ?_ ?_ _) | (simp; done))) <;> first | exact HA.out.bel | (simp; done) | (simp; omega))
    have t0 : W2.cell? ⟨w.heap.size + 1 + 1, 0, none⟩ = some (.string ByteArray.empty) := by rw [← hW2]; simp [go_sem, r0]
    have t1 : W2.cell? ⟨w.heap.size + 1 + 1, 1, none⟩ = some (.int .i64 0) := by rw [← hW2]; simp [go_sem, r1]
    have t2 : W2.cell? ⟨w.heap.size + 1 + 1, 2, none⟩ = some (.int .i64 0) := by rw [← hW2]; simp [go_sem, r2]
    have t3 : W2.cell? ⟨w.heap.size + 1 + 1, 3, none⟩ = some (.int .i64 0) := by rw [← hW2]; simp [go_sem, r3]
    have fp2 : ∀ k, W2.frozen? ⟨w.heap.size, k, none⟩ = false := fun k => by rw [← hW2]; simp [go_sem, fp]
    have fr2 : ∀ k, W2.frozen? ⟨w.heap.size + 1 + 1, k, none⟩ = false := fun k => by rw [← hW2]; simp [go_sem, fr]
    clear fp fr r0 r1 r2 r3 c0 c1 c2 c3 kc hW2
    generalize (1 - p.side) = ns at *
    generalize hmc : min (p.clock + 1) 120 = mc at k2
    generalize hmf : (p.full) = mf at k3
    have HMC := Aside0.mk hmc
    have HMF := Aside0.mk hmf
    clear hmc hmf q1 q2 q3 q4 hs0 hs1 hs
    cases hz : (y == 46)
    all_goals
      rw [hz] at hy
      have HY46 := Aside0.mk hz
      clear hz
      go_wp2_with fail
      refine bodyPost_ret (by simp [results, Try.results32, go_sem, t0, t1, t2, t3]; try rfl) rfl ?_
      refine ⟨?_, by (repeat' (first | (with_reducible exact Below.refl _ _) | (with_reducible refine pw_below_drewN ?_ _) | (with_reducible refine below_alloc ?_ _) | (with_reducible refine Below.drew ?_) | (with_reducible refine Below.setCell ?_ ?_ _) | (simp; done))) <;> first | exact HB2.out | (simp; done) | (simp; omega)⟩
      rw [HR.out]
      have y1 := HY46.out
      have s1 := HS1.out
      simp only [beq_iff_eq, beq_eq_false_iff_ne] at y1 s1
      simp [y1, s1, HMC.out, HMF.out] <;> exact HMC.out.symm
  case true =>
    have HS1 := Aside0.mk hs
    go_upto_region 15 with (simp only [kc])
    generalize hW2 : ((((w9.setCell ⟨w.heap.size, 0, none⟩ (.string mb)).setCell ⟨w.heap.size, 2, none⟩ (.int .i64 (min (p.clock + 1) 120))).setCell ⟨w.heap.size, 3, none⟩ (.int .i64 (min (p.full + 1) 9999))).setCell ⟨w.heap.size, 1, none⟩ (.int .i64 (1 - p.side))) = W2
    have k0 : W2.cell? ⟨w.heap.size, 0, none⟩ = some (.string mb) := by rw [← hW2]; simp [go_sem, c0, c1, c2, c3]
    have k1 : W2.cell? ⟨w.heap.size, 1, none⟩ = some (.int .i64 (1 - p.side)) := by rw [← hW2]; simp [go_sem, c0, c1, c2, c3]
    have k2 : W2.cell? ⟨w.heap.size, 2, none⟩ = some (.int .i64 (min (p.clock + 1) 120)) := by rw [← hW2]; simp [go_sem, c0, c1, c2, c3]
    have k3 : W2.cell? ⟨w.heap.size, 3, none⟩ = some (.int .i64 (min (p.full + 1) 9999)) := by rw [← hW2]; simp [go_sem, c0, c1, c2, c3]
    have HB2 : Aside0 (Below w.heap.size w W2) := Aside0.mk (by rw [← hW2]; (repeat' (first | (with_reducible exact Below.refl _ _) | (with_reducible refine pw_below_drewN ?_ _) | (with_reducible refine below_alloc ?_ _) | (with_reducible refine Below.drew ?_) | (with_reducible refine Below.setCell ?_ ?_ _) | (simp; done))) <;> first | exact HA.out.bel | (simp; done) | (simp; omega))
    have t0 : W2.cell? ⟨w.heap.size + 1 + 1, 0, none⟩ = some (.string ByteArray.empty) := by rw [← hW2]; simp [go_sem, r0]
    have t1 : W2.cell? ⟨w.heap.size + 1 + 1, 1, none⟩ = some (.int .i64 0) := by rw [← hW2]; simp [go_sem, r1]
    have t2 : W2.cell? ⟨w.heap.size + 1 + 1, 2, none⟩ = some (.int .i64 0) := by rw [← hW2]; simp [go_sem, r2]
    have t3 : W2.cell? ⟨w.heap.size + 1 + 1, 3, none⟩ = some (.int .i64 0) := by rw [← hW2]; simp [go_sem, r3]
    have fp2 : ∀ k, W2.frozen? ⟨w.heap.size, k, none⟩ = false := fun k => by rw [← hW2]; simp [go_sem, fp]
    have fr2 : ∀ k, W2.frozen? ⟨w.heap.size + 1 + 1, k, none⟩ = false := fun k => by rw [← hW2]; simp [go_sem, fr]
    clear fp fr r0 r1 r2 r3 c0 c1 c2 c3 kc hW2
    generalize (1 - p.side) = ns at *
    generalize hmc : min (p.clock + 1) 120 = mc at k2
    generalize hmf : (min (p.full + 1) 9999) = mf at k3
    have HMC := Aside0.mk hmc
    have HMF := Aside0.mk hmf
    clear hmc hmf q1 q2 q3 q4 hs0 hs1 hs
    cases hz : (y == 46)
    all_goals
      rw [hz] at hy
      have HY46 := Aside0.mk hz
      clear hz
      go_wp2_with fail
      refine bodyPost_ret (by simp [results, Try.results32, go_sem, t0, t1, t2, t3]; try rfl) rfl ?_
      refine ⟨?_, by (repeat' (first | (with_reducible exact Below.refl _ _) | (with_reducible refine pw_below_drewN ?_ _) | (with_reducible refine below_alloc ?_ _) | (with_reducible refine Below.drew ?_) | (with_reducible refine Below.setCell ?_ ?_ _) | (simp; done))) <;> first | exact HB2.out | (simp; done) | (simp; omega)⟩
      rw [HR.out]
      have y1 := HY46.out
      have s1 := HS1.out
      simp only [beq_iff_eq, beq_eq_false_iff_ne] at y1 s1
      simp [y1, s1, HMC.out, HMF.out] <;> exact HMC.out.symm
theorem apply_c (p : Pos) (m : Mvi) (w : World) : Calls Try.prog 32 #[posV p, mviV m] w (ApplyIs w p m) := by
  by_cases h1 : checkP p = 0
  · cases h2 : goodM p m
    · exact apply_bad p m w h1 h2
    · exact apply_ok p m w h1 h2
  · exact apply_no p m w h1
end Go.Proofs.Ytcanbidenhcohaa.K

/- The pseudo laws' live: some answers, by the contracts and the kernel's reckoning. -/
namespace Go.Proofs.Ytcanbidenhcohaa.K
open Go.RowKit Go.Lib Go.Proofs.YtcanbidenhcohaaW.PrintWords Go.Proofs.Ytcanbidenhcohaa.Sp
set_option linter.unusedVariables false
set_option linter.unusedSimpArgs false
abbrev startB : ByteArray := ⟨#[82, 78, 66, 65, 75, 65, 66, 78, 82, 46, 46, 46, 46, 46, 46, 46, 46, 46, 46, 67, 46, 46, 46, 46, 46, 67, 46, 80, 46, 80, 46, 80, 46, 80, 46, 80, 46, 46, 46, 46, 46, 46, 46, 46, 46, 46, 46, 46, 46, 46, 46, 46, 46, 46, 112, 46, 112, 46, 112, 46, 112, 46, 112, 46, 99, 46, 46, 46, 46, 46, 99, 46, 46, 46, 46, 46, 46, 46, 46, 46, 46, 114, 110, 98, 97, 107, 97, 98, 110, 114]⟩
abbrev startP : Pos := ⟨startB, 0, 0, 1⟩
theorem start_moves : (gathP startP (fun _ => true)).length = 44 ∧ (gathP startP (fun _ => true))[0]? = some (0, 9) ∧ (gathP startP (fun x => x != 46)).length = 2 := by decide +kernel
theorem start_apply : (applyP startP ⟨19, 82⟩).1.side = 1 ∧ (applyP startP ⟨19, 82⟩).1.clock = 0 ∧ (applyP startP ⟨19, 82⟩).1.full = 1 ∧ (applyP startP ⟨19, 82⟩).2 = (110, 0) ∧ (applyP startP ⟨0, 90⟩).2.2 = 7 ∧ (applyP zeroP ⟨0, 0⟩).2.2 = 1 := by decide +kernel
end Go.Proofs.Ytcanbidenhcohaa.K

/- A row of moves, read. -/
namespace Go.Proofs.Ytcanbidenhcohaa.K
open Go.RowKit Go.Lib Go.Proofs.YtcanbidenhcohaaW.PrintWords Go.Proofs.Ytcanbidenhcohaa.Sp
set_option linter.unusedVariables false
set_option linter.unusedSimpArgs false
/-- Moves in a row that the call made, from block B on, as they are read. -/
structure MvAt (W : World) (B : Nat) (v : Value) (l : List Mv) : Prop where mk ::
  out : ∃ A cap, v = .slice A l.length cap ∧ (l = [] ∨ ∃ g, A = some ⟨g, 0, none⟩ ∧ B ≤ g ∧ g < W.heap.size ∧ ∀ i (h : i < l.length), W.cell? ⟨g, i * 2, none⟩ = some (.int .i64 (l[i].1 : Int)) ∧ W.cell? ⟨g, i * 2 + 1, none⟩ = some (.int .i64 (l[i].2 : Int)))
theorem MvAt.below {W W' : World} {B : Nat} {v : Value} {l : List Mv} (h : MvAt W B v l) (hb : Below W.heap.size W W') : MvAt W' B v l := by
  obtain ⟨A, cap, hv, h⟩ := h.out
  refine ⟨A, cap, hv, ?_⟩
  rcases h with h | ⟨g, hA, hB, hg, hx⟩
  · exact .inl h
  · exact .inr ⟨g, hA, hB, Nat.lt_of_lt_of_le hg hb.size, fun i hi => ⟨(hb.cell (p := ⟨g, i * 2, none⟩) hg).trans (hx i hi).1, (hb.cell (p := ⟨g, i * 2 + 1, none⟩) hg).trans (hx i hi).2⟩⟩
theorem OwnM.reads {W : World} {B : Nat} {v : Value} {l : List Mv} (ho : OwnM W B v l) : MvAt W B v l := by
  obtain ⟨hx, ⟨h0, h1⟩ | ⟨g, cap, cur, h0, hb, hg, hn, hc, hs, ht⟩⟩ := ho
  · exact ⟨none, 0, by rw [h0, h1], .inl (List.length_eq_zero_iff.1 h1)⟩
  · refine ⟨_, cap, h0, .inr ⟨g, rfl, hb, ?_, ?_⟩⟩
    · rcases Nat.lt_or_ge g W.heap.size with h | h
      · exact h
      · rw [Array.getElem?_eq_none h] at hg; cases hg
    · intro i hi
      have key : ∀ j, j < 2 → W.cell? ⟨g, i * 2 + j, none⟩ = (mvC l[i])[j]? := by
        intro j hj
        have e := flatM_get l i j hi hj
        rw [← ht, List.getElem?_take] at e
        split at e
        · simp only [World.cell?, hg]
          simpa using e
        · match j, hj with
          | 0, _ | 1, _ => cases e
      have k0 := key 0 (by omega)
      have k1 := key 1 (by omega)
      exact ⟨k0, k1⟩
theorem MvAt.at {W : World} {B : Nat} {v : Value} {l : List Mv} (h : MvAt W B v l) (hl : l ≠ []) : ∃ g cap, v = .slice (some ⟨g, 0, none⟩) l.length cap ∧ B ≤ g ∧ g < W.heap.size ∧ ∀ i (h : i < l.length), W.cell? ⟨g, i * 2, none⟩ = some (.int .i64 (l[i].1 : Int)) ∧ W.cell? ⟨g, i * 2 + 1, none⟩ = some (.int .i64 (l[i].2 : Int)) := by
  obtain ⟨A, cap, hv, h1 | ⟨g, rfl, h2⟩⟩ := h.out
  · exact absurd h1 hl
  · exact ⟨g, cap, hv, h2⟩
theorem MvAt.form {W : World} {B : Nat} {v : Value} {l : List Mv} (h : MvAt W B v l) : ∃ A cap, v = .slice A l.length cap := by
  obtain ⟨A, cap, hv, _⟩ := h.out
  exact ⟨A, cap, hv⟩
/-- A position's box. -/
structure BoxP (W : World) (b : Nat) (p : Pos) : Prop where
  c0 : W.cell? ⟨b, 0, none⟩ = some (.string p.cells)
  c1 : W.cell? ⟨b, 1, none⟩ = some (.int .i64 p.side)
  c2 : W.cell? ⟨b, 2, none⟩ = some (.int .i64 p.clock)
  c3 : W.cell? ⟨b, 3, none⟩ = some (.int .i64 p.full)
theorem BoxP.below {W W' : World} {b : Nat} {p : Pos} (h : BoxP W b p) (hb : Below W.heap.size W W') : BoxP W' b p := ⟨below_cell hb _ _ _ h.c0, below_cell hb _ _ _ h.c1, below_cell hb _ _ _ h.c2, below_cell hb _ _ _ h.c3⟩
theorem BoxP.drew {W : World} {b : Nat} {p : Pos} (h : BoxP W b p) : BoxP W.drew b p := ⟨h.c0, h.c1, h.c2, h.c3⟩
theorem BoxP.new (w : World) (p : Pos) : BoxP (w.alloc (.cells #[.string p.cells, .int .i64 p.side, .int .i64 p.clock, .int .i64 p.full] 38)) w.heap.size p := by
  constructor <;> simp [World.cell?_alloc_at]
/-- Since an elder world, what lay there lies there still. -/
theorem below_go {w W W' : World} (h : Below w.heap.size w W) (hb : Below W.heap.size W W') : Below w.heap.size w W' := h.trans (hb.mono h.size)
theorem below_new {w W : World} (h : Below w.heap.size w W) (o : Obj) : Below w.heap.size w (W.alloc o) := below_go h (below_alloc (Below.refl _ _) _)
theorem below_drews {w W : World} (h : Below w.heap.size w W) (n : Nat) : Below w.heap.size w (W.drewN n) := pw_below_drewN h n
end Go.Proofs.Ytcanbidenhcohaa.K

/- The pseudo laws' live, walked. -/
namespace Go.Proofs.Ytcanbidenhcohaa.K
open Go.RowKit Go.Lib Go.Proofs.YtcanbidenhcohaaW.PrintWords Go.Proofs.Ytcanbidenhcohaa.Sp
set_option linter.unusedVariables false
set_option linter.unusedSimpArgs false
set_option maxRecDepth 100000 in
set_option maxHeartbeats 4000000 in
theorem live_c (w : World) : Calls Try.prog 30 #[] w fun e w' => e = .returned (.bool true) ∧ Below w.heap.size w w' := by
  have HM := Aside0.mk (fun W => moves_c startP W)
  have HC := Aside0.mk (fun W => captures_c startP W)
  obtain ⟨m1, m2, m3⟩ := start_moves
  generalize gathP startP (fun _ => true) = ml at *
  generalize gathP startP (fun x => x != 46) = cl at *
  obtain ⟨a1, a2, a3, a4, a5, a6⟩ := start_apply
  have A1 := Aside0.mk (fun W => apply_c startP ⟨19, 82⟩ W)
  have A2 := Aside0.mk (fun W => apply_c startP ⟨0, 90⟩ W)
  have A3 := Aside0.mk (fun W => apply_c zeroP ⟨0, 0⟩ W)
  unfold ApplyIs at A1 A2 A3
  generalize applyP startP ⟨19, 82⟩ = q1 at *
  generalize applyP startP ⟨0, 90⟩ = q2 at *
  generalize applyP zeroP ⟨0, 0⟩ = q3 at *
  obtain ⟨⟨b0, b1, b2, b3⟩, b4, b5⟩ := q1
  obtain ⟨⟨c0, c1, c2, c3⟩, c4, c5⟩ := q2
  obtain ⟨⟨d0, d1, d2, d3⟩, d4, d5⟩ := q3
  simp only at a1 a2 a3 a5 a6
  simp only [Prod.mk.injEq] at a4
  obtain ⟨rfl, rfl⟩ := a4
  subst a1 a2 a3 a5 a6
  have hu := Try.underlying38
  have hu2 := Try.underlying42
  have HM1 := Aside0.mk m1
  have HM2 := Aside0.mk (And.intro m2 m3)
  clear m1 m2 m3
  go_enter Try.func30, Try.ntmps30
  go_wp2_with fail
  have HB0 := Aside0.mk (BoxP.new w startP)
  have HW0 := Aside0.mk (below_new (Below.refl w.heap.size w) (.cells #[.string startP.cells, .int .i64 startP.side, .int .i64 startP.clock, .int .i64 startP.full] 38))
  refine (HM.out _).mono ?_
  rintro e w1 ⟨v1, rfl, h1, hb⟩
  have HB1 := Aside0.mk (HB0.out.below hb)
  have HW1 := Aside0.mk (below_go HW0.out hb)
  have HV1 := Aside0.mk h1.reads
  clear h1 hb HB0 HW0
  obtain ⟨e0, e1, e2, e3⟩ := HB1.out
  go_wp2_with fail
  refine (HC.out _).mono ?_
  rintro e w2 ⟨v2, rfl, h2, hb⟩
  have HB2 := Aside0.mk (HB1.out.below hb)
  have HW2 := Aside0.mk (below_go HW1.out hb)
  have HV1' := Aside0.mk (HV1.out.below hb)
  have HV2 := Aside0.mk h2.reads
  clear e0 e1 e2 e3 HB1 HV1 HW1 h2 hb
  obtain ⟨e0, e1, e2, e3⟩ := HB2.out
  go_wp2_with fail
  refine (A1.out _).mono ?_
  rintro e w3 ⟨rfl, hb⟩
  have HB3 := Aside0.mk (HB2.out.below hb)
  have HW3 := Aside0.mk (below_go HW2.out hb)
  have HV1 := Aside0.mk (HV1'.out.below hb)
  have HV2' := Aside0.mk (HV2.out.below hb)
  clear e0 e1 e2 e3 HB2 HV1' HV2 HW2 hb
  obtain ⟨e0, e1, e2, e3⟩ := HB3.out
  have hl3 : w.heap.size < w3.heap.size := World.block_lt_of_cell? _ _ e0
  go_wp2_with fail
  refine (A2.out _).mono ?_
  rintro e w4 ⟨rfl, hb⟩
  have HB4 := Aside0.mk ((HB3.out.below (below_alloc (Below.refl _ _) _)).below hb)
  have HW4 := Aside0.mk (below_go (below_new HW3.out _) hb)
  have HV1' := Aside0.mk ((HV1.out.below (below_alloc (Below.refl _ _) _)).below hb)
  have HV2 := Aside0.mk ((HV2'.out.below (below_alloc (Below.refl _ _) _)).below hb)
  have HQ := Aside0.mk ((BoxP.new w3 ⟨b0, 1, 0, 1⟩).below hb)
  clear e0 e1 e2 e3 HB3 HV1 HV2' HW3 hb hl3
  generalize w3.heap.size = bq at *
  obtain ⟨e0, e1, e2, e3⟩ := HB4.out
  have hl3 : w.heap.size < w4.heap.size := World.block_lt_of_cell? _ _ e0
  go_wp2_with fail
  refine (A3.out _).mono ?_
  rintro e w5 ⟨rfl, hb⟩
  have HW5 := Aside0.mk (below_go (below_new HW4.out _) hb)
  have HV1 := ((HV1'.out.below (below_alloc (Below.refl _ _) _)).below hb)
  have HV2' := ((HV2.out.below (below_alloc (Below.refl _ _) _)).below hb)
  have HQ' := ((HQ.out.below (below_alloc (Below.refl _ _) _)).below hb)
  clear e0 e1 e2 e3 HB4 HV1' HV2 HW4 hb hl3 HQ
  obtain ⟨g, cap, rfl, _, hlg, hml⟩ := HV1.at (by intro h; have := HM1.out; rw [h] at this; simp at this)
  obtain ⟨x0, x1⟩ := hml 0 (by rw [HM1.out]; omega)
  have z0 : ml[0]'(by rw [HM1.out]; omega) = (0, 9) := by
    have := HM2.out.1
    rw [List.getElem?_eq_getElem (by rw [HM1.out]; omega)] at this
    exact Option.some.inj this
  rw [z0] at x0 x1
  obtain ⟨A2, cap2, rfl⟩ := HV2'.form
  rw [HM1.out, HM2.out.2]
  clear hml HV1 HV2' z0
  obtain ⟨f0, f1, f2, f3⟩ := HQ'
  have hl3 : bq < w5.heap.size := World.block_lt_of_cell? _ _ f0
  go_wp2_with fail
  go_ret
  exact ⟨rfl, below_new HW5.out _⟩
end Go.Proofs.Ytcanbidenhcohaa.K

/- PseudoCaptures: the walk. -/
namespace Go.Proofs.Ytcanbidenhcohaa.K
open Go.RowKit Go.Lib Go.Proofs.YtcanbidenhcohaaW.PrintWords Go.Proofs.Ytcanbidenhcohaa.Sp
set_option linter.unusedVariables false
set_option linter.unusedSimpArgs false
attribute [local go_sem] cel_get   -- for this text's walks alone
theorem checkP_board {p : Pos} (h : checkP p = 0) : argOk p = true := by
  unfold checkP at h
  cases ha : argOk p
  · rw [ha] at h; simp at h
  · rfl
theorem gath_cap (p : Pos) : gathP p (fun x => x != 46) = (gathP p (fun _ => true)).filter (fun m => cel p.cells m.2 != 46) := by
  unfold gathP
  split
  · unfold gathM
    rw [List.filter_flatMap]
    congr 1
    funext a
    unfold fromM
    split
    · simp [List.filter_map, List.filter_filter, Function.comp_def]
    · rfl
  · rfl
theorem gath_mem {p : Pos} {q : Nat → Bool} {m : Mv} (h : m ∈ gathP p q) : checkP p = 0 ∧ m.1 < 90 ∧ m.2 < 90 ∧ sideN (cel p.cells m.1) = p.side ∧ fastN (cel p.cells) m.1 m.2 = true ∧ q (cel p.cells m.2) = true := by
  unfold gathP at h
  split at h
  · rename_i hc
    unfold gathM at h
    obtain ⟨a, ha, hm⟩ := List.mem_flatMap.1 h
    unfold fromM at hm
    split at hm
    · rename_i hs
      obtain ⟨b, hb, rfl⟩ := List.mem_map.1 hm
      obtain ⟨hb1, hb2⟩ := List.mem_filter.1 hb
      have hb3 : b ∈ (List.range 90).filter (fun b => fastN (cel p.cells) a b) := hb1
      exact ⟨hc, List.mem_range.1 ha, allN_lt _ _ b hb1, hs, (List.mem_filter.1 hb3).2, hb2⟩
    · simp at hm
  · simp at h
theorem gath_len (p : Pos) (q : Nat → Bool) : (gathP p q).length ≤ 8100 := by
  unfold gathP
  split
  · exact gathM_len _ _ _ _
  · simp
theorem take_filter {α : Type} (l : List α) (f : α → Bool) (i : Nat) (h : i < l.length) : ((l.take (i + 1)).filter f) = (l.take i).filter f ++ (if f l[i] = true then [l[i]] else []) := by
  rw [List.take_succ_eq_append_getElem h, List.filter_append]
  congr 1
  split <;> simp_all
theorem filter_at {α : Type} (l : List α) (f : α → Bool) (i : Nat) (h : i < l.length) (hf : f l[i] = true) : (l.filter f)[((l.take i).filter f).length]? = some l[i] := by
  have e : l = l.take i ++ l[i] :: l.drop (i + 1) := by rw [← List.drop_eq_getElem_cons h, List.take_append_drop]
  have e2 : l.filter f = (l.take i).filter f ++ l[i] :: (l.drop (i + 1)).filter f := by
    conv => lhs; rw [e]
    rw [List.filter_append, List.filter_cons_of_pos hf]
  rw [e2]
  simp
/-- Two rows of moves beside a position's box. -/
structure TwoAt (w0 W : World) (p : Pos) (v1 v2 : Value) (l k : List Mv) : Prop where
  box : BoxP W w0.heap.size p
  m1 : MvAt W w0.heap.size v1 l
  m2 : MvAt W w0.heap.size v2 k
  bel : Below w0.heap.size w0 W
theorem TwoAt.below {w0 W W' : World} {p : Pos} {v1 v2 : Value} {l k : List Mv} (h : TwoAt w0 W p v1 v2 l k) (hb : Below W.heap.size W W') : TwoAt w0 W' p v1 v2 l k :=
  ⟨h.box.below hb, h.m1.below hb, h.m2.below hb, below_go h.bel hb⟩
theorem MvAt.lower {W : World} {B B' : Nat} {v : Value} {l : List Mv} (h : MvAt W B v l) (hb : B' ≤ B) : MvAt W B' v l := by
  obtain ⟨A, cap, hv, h⟩ := h.out
  refine ⟨A, cap, hv, ?_⟩
  rcases h with h | ⟨g, hA, hB, h⟩
  · exact .inl h
  · exact .inr ⟨g, hA, Nat.le_trans hb hB, h⟩
set_option maxRecDepth 100000 in
set_option maxHeartbeats 4000000 in
theorem capturesLaw (w : World) (p : Pos) (hmx : p.cells.size ≤ maxLen) : Calls Try.prog 12 #[posV p] w fun e w' => e = .returned (.bool true) ∧ Below w.heap.size w w' := by
  have HLV := Aside0.mk (fun W => live_c W)
  have hu := Try.underlying38
  have hu2 := Try.underlying42
  by_cases h200 : p.cells.size > 200
  · have h1 : (200 : Int) < (p.cells.size : Int) := by omega
    have HW0 := Aside0.mk (below_new (Below.refl w.heap.size w) (.cells #[.string p.cells, .int .i64 p.side, .int .i64 p.clock, .int .i64 p.full] 38))
    clear h200 hmx
    go_enter Try.func12, Try.ntmps12
    go_wp2_with (go_at_call 30; refine (HLV.out _).mono ?_; rintro e w1 ⟨rfl, hb⟩; have HW1 := Aside0.mk (below_go HW0.out hb); clear hb)
    go_ret
    exact ⟨rfl, HW1.out⟩
  have h1 : (p.cells.size : Int) ≤ 200 := by omega
  clear h200 hmx
  have HM := Aside0.mk (fun W => moves_c p W)
  have HC := Aside0.mk (fun W => captures_c p W)
  have HFIL := Aside0.mk (gath_cap p)
  have HMEM := Aside0.mk (fun m (h : m ∈ gathP p (fun _ => true)) => gath_mem h)
  have HLL := Aside0.mk (gath_len p (fun _ => true))
  generalize gathP p (fun _ => true) = l at *
  generalize gathP p (fun x => x != 46) = k at *
  go_enter Try.func12, Try.ntmps12
  go_wp2_with fail
  have HB0 := Aside0.mk (BoxP.new w p)
  have HW0 := Aside0.mk (below_new (Below.refl w.heap.size w) (.cells #[.string p.cells, .int .i64 p.side, .int .i64 p.clock, .int .i64 p.full] 38))
  refine (HM.out _).mono ?_
  rintro e w1 ⟨v1, rfl, h1, hb⟩
  have HB1 := Aside0.mk (HB0.out.below hb)
  have HW1 := Aside0.mk (below_go HW0.out hb)
  have HV1 := Aside0.mk (h1.reads.lower HW0.out.size)
  clear h1 hb HB0
  obtain ⟨e0, e1, e2, e3⟩ := HB1.out
  go_wp2_with fail
  refine (HC.out _).mono ?_
  rintro e w2 ⟨v2, rfl, h2, hb⟩
  have HT := Aside0.mk (show TwoAt w w2 p v1 v2 l k from ⟨HB1.out.below hb, HV1.out.below hb, h2.reads.lower HW1.out.size, below_go HW1.out hb⟩)
  clear h2 hb HB1 HV1 e0 e1 e2 e3 HW1 HW0
  obtain ⟨A1, cap1, rfl⟩ := HT.out.m1.form
  obtain ⟨A2, cap2, rfl⟩ := HT.out.m2.form
  go_wp2_with fail
  have HX := HT
  clear HT
  go_loopg [5, 6] l.length (fun gg s5 s6 wr => ∃ i : Nat, s5 = .int .i64 (((l.take i).filter (fun m => cel p.cells m.2 != 46)).length : Int) ∧ s6 = .int .i64 i ∧ i + gg = l.length ∧ Aside0 (TwoAt w wr p (.slice A1 l.length cap1) (.slice A2 k.length cap2) l k))
  case atStart => exact ⟨0, rfl, rfl, by omega, HX⟩
  case round =>
    clear HX
    obtain ⟨i, rfl, rfl, hi, HX⟩ := hrel
    have HNI := Aside0.mk (show ((l.take i).filter (fun m => cel p.cells m.2 != 46)).length ≤ 8100 from Nat.le_trans (List.length_filter_le _ _) (Nat.le_trans (by rw [List.length_take]; omega) HLL.out))
    cases gk with
    | zero =>
      have hn : ¬ ((i : Int) < (l.length : Int)) := by omega
      have HI := Aside0.mk (show i = l.length by omega)
      have hk : (((l.take i).filter (fun m => cel p.cells m.2 != 46)).length : Int) = (k.length : Int) := by rw [HFIL.out, HI.out, List.take_length]
      rw [hk]
      clear hi hk
      go_wp2_with (go_at_call 30; refine (HLV.out _).mono ?_; rintro e w5 ⟨rfl, hb⟩; have HW5 := Aside0.mk (below_go HX.out.bel hb); clear hb)
      go_ret
      exact ⟨rfl, HW5.out⟩
    | succ g =>
      have hn : (i : Int) < (l.length : Int) := by omega
      have hil : i < l.length := by omega
      have hib : (i : Int) ≤ 8100 := by have := HLL.out; omega
      have HI := Aside0.mk (show i + 1 + g = l.length by omega)
      have HTF := Aside0.mk (take_filter l (fun m => cel p.cells m.2 != 46) i hil)
      have HFA := Aside0.mk (fun (h : (fun m : Mv => cel p.cells m.2 != 46) l[i] = true) => filter_at l (fun m => cel p.cells m.2 != 46) i hil h)
      rw [← HFIL.out] at HFA
      obtain ⟨hc0, ha90, hb90, _⟩ := HMEM.out _ (List.getElem_mem hil)
      have hs90 := board_size (argOk_yes (checkP_board hc0)).1
      have hsz : ((p.cells.size : Int) != 90) = false := by rw [hs90]; rfl
      have hszb : (p.cells.size : Int) = 90 := by omega
      clear hc0
      obtain ⟨g1, cap1', hA1, _, hg1, hx1⟩ := HX.out.m1.at (fun h => by rw [h] at hil; simp at hil)
      simp only [Value.slice.injEq, true_and] at hA1
      obtain ⟨rfl, rfl⟩ := hA1
      obtain ⟨x0, x1⟩ := hx1 i hil
      clear hx1
      obtain ⟨e0, e1, e2, e3⟩ := HX.out.box
      clear e1 e2 e3 hi
      have HLI := Aside0.mk (rfl : l[i] = l[i])
      generalize ((l.take i).filter (fun m => cel p.cells m.2 != 46)) = fl at *
      generalize hli : l[i] = m at *
      obtain ⟨ma, mb⟩ := m
      simp only at ha90 hb90 x0 x1
      have hm1 : (mb : Int) < 90 := by omega
      have hm0 : (ma : Int) < 90 := by omega
      have hm2 : (mb : Int) < (p.cells.size : Int) := by omega
      clear hs90 hszb
      clear ha90 hb90
      have q := bne46 (cel p.cells mb)
      cases hc : (cel p.cells mb != 46)
      case false =>
        rw [hc] at q
        have HC0 := Aside0.mk hc
        clear hc
        go_wp2_with fail
        go_quiet (fail)
        go_wp2_with fail
        go_roundg g
        case measure => omega
        case rel =>
          refine ⟨i + 1, ?_, rfl, by have := HI.out; omega, ⟨HX.out.below (pw_below_drewN (Below.refl _ _) _)⟩⟩
          rw [HTF.out, if_neg (by show ¬ (cel p.cells mb != 46) = true; rw [HC0.out]; simp), List.append_nil]
      case true =>
        have hk := HFA.out hc
        have hkl : fl.length < k.length := by
          rcases Nat.lt_or_ge fl.length k.length with h | h
          · exact h
          · rw [List.getElem?_eq_none h] at hk; cases hk
        rw [List.getElem?_eq_getElem hkl] at hk
        have hk := Option.some.inj hk
        obtain ⟨g2, cap2', hA2, _, hg2, hx2⟩ := HX.out.m2.at (fun h => by rw [h] at hkl; simp at hkl)
        simp only [Value.slice.injEq, true_and] at hA2
        obtain ⟨rfl, rfl⟩ := hA2
        obtain ⟨y0, y1⟩ := hx2 _ hkl
        rw [hk] at y0 y1
        simp only at y0 y1
        have hkn : (fl.length : Int) < (k.length : Int) := by omega
        clear hx2 hk
        rw [hc] at q
        have HC0 := Aside0.mk hc
        have hni : (fl.length : Int) ≤ 8100 := by have := HNI.out; omega
        have HFL := Aside0.mk (show (((fl ++ [((ma : Nat), (mb : Nat))]).length : Nat) : Int) = (fl.length : Int) + 1 by simp)
        generalize fl.length = n at *
        clear hc
        go_wp2_with fail
        go_quiet (fail)
        go_wp2_with fail
        go_quiet (fail)
        go_wp2_with fail
        go_roundg g
        case measure => omega
        case rel =>
          refine ⟨i + 1, ?_, rfl, by have := HI.out; omega, ⟨HX.out.below (pw_below_drewN (Below.refl _ _) _)⟩⟩
          rw [HTF.out, if_pos (show (cel p.cells mb != 46) = true from HC0.out), HFL.out]
end Go.Proofs.Ytcanbidenhcohaa.K

/- Plain law: behind a move a position is right. -/
namespace Go.Proofs.Ytcanbidenhcohaa.K
open Go.RowKit Go.Lib Go.Proofs.YtcanbidenhcohaaW.PrintWords Go.Proofs.Ytcanbidenhcohaa.Sp
set_option linter.unusedVariables false
/-- Something else on one square. -/
def setC (c : Nat → Nat) (n v : Nat) : Nat → Nat := fun i => if i = n then v else c i
def cntC (c : Nat → Nat) (N x : Nat) : Nat := (List.range N).countP (fun i => c i == x)
theorem cntC_succ (c : Nat → Nat) (N x : Nat) : cntC c (N + 1) x = cntC c N x + (if c N = x then 1 else 0) := by
  unfold cntC
  rw [List.range_succ, List.countP_append]
  simp [List.countP_cons]
theorem cnt_set (c : Nat → Nat) (n v x : Nat) : ∀ N, (n < N → cntC (setC c n v) N x + (if c n = x then 1 else 0) = cntC c N x + (if v = x then 1 else 0)) ∧ (N ≤ n → cntC (setC c n v) N x = cntC c N x)
  | 0 => ⟨fun h => by omega, fun _ => rfl⟩
  | N + 1 => by
    obtain ⟨h1, h2⟩ := cnt_set c n v x N
    rw [cntC_succ, cntC_succ]
    have e : setC c n v N = if N = n then v else c N := rfl
    constructor
    · intro h
      by_cases hN : N = n
      · subst hN
        rw [h2 (Nat.le_refl _), e, if_pos rfl]
        omega
      · have := h1 (by omega)
        rw [show setC c n v N = c N from if_neg hN]
        omega
    · intro h
      rw [h2 (by omega), show setC c n v N = c N from if_neg (by omega)]
theorem cntC_congr {c d : Nat → Nat} {N : Nat} (h : ∀ n, n < N → c n = d n) (x : Nat) : cntC c N x = cntC d N x := by
  unfold cntC
  exact List.countP_congr (fun i hi => by rw [h i (List.mem_range.1 hi)])
/-- The squares of a board behind a move. -/
def moveC (c : Nat → Nat) (a b : Nat) : Nat → Nat := setC (setC c b (c a)) a 46
theorem cnt_move {c : Nat → Nat} {a b : Nat} (ha : a < 90) (hb : b < 90) (hab : a ≠ b) (x : Nat) : cntC (moveC c a b) 90 x + (if c b = x then 1 else 0) = cntC c 90 x + (if 46 = x then 1 else 0) := by
  have h1 := (cnt_set (setC c b (c a)) a 46 x 90).1 ha
  have h2 := (cnt_set c b (c a) x 90).1 hb
  rw [show setC c b (c a) a = c a from if_neg hab] at h1
  unfold moveC
  omega
theorem fast_may : ∀ x ∈ letters, 0 ≤ sideN x → kindN x = 80 → ∀ a b : Fin 90, mayN x a.1 = true → pawnN (sideN x) a.1 b.1 = true → mayN x b.1 = true := by decide +kernel
theorem may_move {c : Nat → Nat} {a b : Nat} (ha : a < 90) (hb : b < 90) (hl : c a ∈ letters) (hm : mayN (c a) a = true) (h : fastN c a b = true) : mayN (c a) b = true := by
  have hs : 0 ≤ sideN (c a) := by
    unfold fastN at h
    simp only [Bool.and_eq_true, decide_eq_true_eq] at h
    exact h.1.1
  have hc : canN c a b = true := by
    unfold fastN at h
    simp only [Bool.and_eq_true] at h
    exact h.2
  have hk := kinds hs
  unfold canN at hc
  rcases hk with k | k | k | k | k | k | k
  · rw [if_pos k] at hc; simp only [Bool.and_eq_true] at hc; exact hc.2
  · rw [if_neg (by omega), if_pos k] at hc; simp only [Bool.and_eq_true] at hc; exact hc.2
  · rw [if_neg (by omega), if_neg (by omega), if_pos k] at hc; simp only [Bool.and_eq_true] at hc; exact hc.1.2
  · unfold mayN; rw [if_neg (by omega), if_neg (by omega), if_neg (by omega), if_neg (by omega), if_neg (by omega)]
  · unfold mayN; rw [if_neg (by omega), if_neg (by omega), if_neg (by omega), if_neg (by omega), if_neg (by omega)]
  · unfold mayN; rw [if_neg (by omega), if_neg (by omega), if_neg (by omega), if_neg (by omega), if_neg (by omega)]
  · rw [if_neg (by omega), if_neg (by omega), if_neg (by omega), if_neg (by omega), if_neg (by omega), if_neg (by omega)] at hc
    exact fast_may _ hl hs k ⟨a, ha⟩ ⟨b, hb⟩ hm hc
theorem cel_nums (xs : List Int) (n : Nat) (hn : n < xs.length) (h : 0 ≤ xs[n] ∧ xs[n] < 256) : cel (strOfNums xs) n = (xs[n]).toNat := by
  have hs : n < (strOfNums xs).size := by simp [strOfNums, ByteArray.size]; omega
  rw [← cel_get _ n hs]
  have e : (strOfNums xs)[n]'hs = UInt8.ofNat (xs[n]).toNat := by
    show ((xs.map fun n => UInt8.ofNat n.toNat).toArray)[n]'(by simpa using hn) = _
    simp
  rw [e]
  simp only [UInt8.toNat_ofNat']
  omega
theorem moved_size (s : ByteArray) (a b : Nat) : (movedB s a b).size = s.size := by
  have h : ∀ xs : List Int, (strOfNums xs).size = xs.length := fun xs => by simp [strOfNums, ByteArray.size]
  unfold movedB
  rw [h, List.length_set, List.length_set, bytesOf_length]
theorem moved_cel {s : ByteArray} {a b n : Nat} (ha : a < s.size) (hb : b < s.size) (hn : n < s.size) : cel (movedB s a b) n = moveC (cel s) a b n := by
  have hl : (((bytesOf s).set b (cel s a)).set a 46).length = s.size := by rw [List.length_set, List.length_set, bytesOf_length]
  have hg : (((bytesOf s).set b (cel s a)).set a 46)[n]'(by omega) = (moveC (cel s) a b n : Int) := by
    rw [List.getElem_set]
    unfold moveC setC
    by_cases h1 : n = a
    · rw [if_pos h1.symm, if_pos h1]; rfl
    · rw [if_neg (Ne.symm h1), if_neg h1, List.getElem_set]
      by_cases h2 : n = b
      · rw [if_pos h2.symm, if_pos h2]
      · rw [if_neg (Ne.symm h2), if_neg h2]
        have := bytes_getD s n hn
        rw [List.getD_eq_getElem?_getD, List.getElem?_eq_getElem (by rw [bytesOf_length]; exact hn)] at this
        exact this
  have hlt : moveC (cel s) a b n < 256 := by
    unfold moveC setC
    split
    · omega
    · split <;> exact cel_lt _ _
  unfold movedB
  rw [cel_nums _ n (by omega) (by rw [hg]; omega), hg]
  simp
end Go.Proofs.Ytcanbidenhcohaa.K

/- Plain law: behind a move a position is right; its pieces. -/
namespace Go.Proofs.Ytcanbidenhcohaa.K
open Go.RowKit Go.Lib Go.Proofs.YtcanbidenhcohaaW.PrintWords Go.Proofs.Ytcanbidenhcohaa.Sp
set_option linter.unusedVariables false
theorem checkP_parts {p : Pos} (h : checkP p = 0) : argOk p = true ∧ (∀ x ∈ pieces14, badX p.cells x = false) ∧ (∀ n, n < 90 → cel p.cells n = 46 ∨ mayN (cel p.cells n) n = true) := by
  have ha := checkP_board h
  unfold checkP at h
  rw [if_neg (by rw [ha]; simp)] at h
  cases h1 : pieces14.any (badX p.cells)
  · rw [h1] at h
    cases h2 : rightX p.cells 90
    · rw [h2] at h; simp at h
    · refine ⟨ha, fun x hx => ?_, fun n hn => ?_⟩
      · rw [List.any_eq_false] at h1
        simpa using h1 x hx
      · unfold rightX at h2
        rw [List.all_eq_true] at h2
        have := h2 n (List.mem_range.2 hn)
        simp only [Bool.or_eq_true, beq_iff_eq] at this
        exact this
  · rw [h1] at h; simp at h
theorem checkP_mk {p : Pos} (ha : argOk p = true) (hb : ∀ x ∈ pieces14, badX p.cells x = false) (hr : ∀ n, n < 90 → cel p.cells n = 46 ∨ mayN (cel p.cells n) n = true) : checkP p = 0 := by
  unfold checkP
  rw [if_neg (by rw [ha]; simp), if_neg, if_neg]
  · have : rightX p.cells 90 = true := by
      unfold rightX
      rw [List.all_eq_true]
      intro n hn
      simp only [Bool.or_eq_true, beq_iff_eq]
      exact hr n (List.mem_range.1 hn)
    simp [this]
  · have : pieces14.any (badX p.cells) = false := by
      rw [List.any_eq_false]
      intro x hx
      simp [hb x hx]
    simp [this]
/-- What is known of a move of a position. -/
theorem move_parts {p : Pos} {a b : Nat} (hck : checkP p = 0) (ha : a < 90) (hb : b < 90) (hs : sideN (cel p.cells a) = p.side) (hf : fastN (cel p.cells) a b = true) :
    atS p.cells (a : Int) = cel p.cells a ∧ atS p.cells (b : Int) = cel p.cells b ∧ allS p.cells (a : Int) = allN (cel p.cells) a ∧ a ≠ b ∧ 0 ≤ sideN (cel p.cells a) := by
  have hbd := (argOk_yes (checkP_parts hck).1).1
  have hf' := hf
  unfold fastN at hf'
  simp only [Bool.and_eq_true, decide_eq_true_eq, bne_iff_ne, ne_eq] at hf'
  refine ⟨?_, ?_, ?_, ?_, hf'.1.1⟩
  · unfold atS; rw [if_pos ⟨hbd, by omega, by omega⟩]; rfl
  · unfold atS; rw [if_pos ⟨hbd, by omega, by omega⟩]; rfl
  · unfold allS; rw [if_pos ⟨hbd, by omega, by omega⟩]; rfl
  · rintro rfl; exact hf'.1.2 rfl
theorem good_move {p : Pos} {a b : Nat} (hck : checkP p = 0) (ha : a < 90) (hb : b < 90) (hs : sideN (cel p.cells a) = p.side) (hf : fastN (cel p.cells) a b = true) : goodM p ⟨a, b⟩ = (kindN (cel p.cells b) != 75) := by
  obtain ⟨h1, h2, h3, _, _⟩ := move_parts hck ha hb hs hf
  unfold goodM
  simp only
  rw [h1, h2, h3, hs]
  have : (allN (cel p.cells) a).any (fun n => (n : Int) == (b : Int)) = true := by
    rw [List.any_eq_true]
    exact ⟨b, List.mem_filter.2 ⟨List.mem_range.2 hb, hf⟩, by simp⟩
  rw [this]
  simp
theorem right_after {p : Pos} {a b : Nat} (hck : checkP p = 0) (ha : a < 90) (hb : b < 90) (hs : sideN (cel p.cells a) = p.side) (hf : fastN (cel p.cells) a b = true) (hk : kindN (cel p.cells b) ≠ 75) (ck fl : Int) (hc : 0 ≤ ck ∧ ck ≤ 120) (hfl : 1 ≤ fl ∧ fl ≤ 9999) :
    checkP ⟨movedB p.cells a b, 1 - p.side, ck, fl⟩ = 0 ∧ isBoard (movedB p.cells a b) = true ∧ cntX (movedB p.cells a b) 90 46 = cntX p.cells 90 46 + (if cel p.cells b = 46 then 0 else 1) := by
  obtain ⟨hao, hbad, hri⟩ := checkP_parts hck
  obtain ⟨hbd, hsd, _⟩ := argOk_yes hao
  obtain ⟨_, _, _, hab, h0⟩ := move_parts hck ha hb hs hf
  have hsz := board_size hbd
  have hcel : ∀ n, n < 90 → cel (movedB p.cells a b) n = moveC (cel p.cells) a b n := fun n hn => moved_cel (by omega) (by omega) (by omega)
  have hlet : ∀ n, n < 90 → moveC (cel p.cells) a b n ∈ letters := by
    intro n hn
    unfold moveC setC
    split
    · decide
    · split
      · exact board_cell hbd ha
      · exact board_cell hbd hn
  have hcb : ∀ x ∈ letters, cellB x = true := by decide
  have hmb : isBoard (movedB p.cells a b) = true := (board_iff _ (by rw [moved_size, hsz])).2 (fun n hn => by rw [hcel n hn]; exact hcb _ (hlet n hn))
  have hcnt : ∀ x, cntX (movedB p.cells a b) 90 x + (if cel p.cells b = x then 1 else 0) = cntX p.cells 90 x + (if 46 = x then 1 else 0) := by
    intro x
    have h := cnt_move (c := cel p.cells) ha hb hab x
    have e : cntX (movedB p.cells a b) 90 x = cntC (moveC (cel p.cells) a b) 90 x := cntC_congr hcel x
    rw [e]
    exact h
  refine ⟨checkP_mk ?_ ?_ ?_, hmb, ?_⟩
  · unfold argOk
    simp only
    rw [hmb]
    simp only [Bool.true_and, decide_eq_true_eq]
    omega
  · intro x hx
    have h := hbad x hx
    have hc := hcnt x
    have hx46 : ∀ x ∈ pieces14, (46 : Nat) ≠ x := by decide
    rw [if_neg (hx46 x hx)] at hc
    unfold badX at h ⊢
    simp only [Bool.or_eq_false_iff, decide_eq_false_iff_not, Bool.and_eq_false_iff, beq_eq_false_iff_ne, bne_eq_false_iff_eq] at h ⊢
    obtain ⟨h1, h2⟩ := h
    refine ⟨by split at hc <;> omega, ?_⟩
    rcases h2 with h2 | h2
    · exact .inl h2
    · by_cases h3 : cel p.cells b = x
      · left
        rw [← h3]
        exact hk
      · right
        rw [if_neg h3] at hc
        omega
  · intro n hn
    simp only
    rw [hcel n hn]
    unfold moveC setC
    by_cases h1 : n = a
    · rw [if_pos h1]; exact .inl rfl
    · rw [if_neg h1]
      by_cases h2 : n = b
      · rw [if_pos h2, h2]
        rcases hri a ha with h3 | h3
        · rw [h3] at h0; exact absurd h0 (by decide)
        · exact .inr (may_move ha hb (board_cell hbd ha) h3 hf)
      · rw [if_neg h2]; exact hri n hn
  · have := hcnt 46
    rw [if_pos rfl] at this
    split at this
    · rename_i h; rw [if_pos h]; omega
    · rename_i h; rw [if_neg h]; omega
/-- One move stands ahead of another. -/
def aheadM (m n : Mv) : Prop := m.1 < n.1 ∨ (m.1 = n.1 ∧ m.2 < n.2)
theorem from_pair (s : ByteArray) (side : Int) (q : Nat → Bool) (a : Nat) : (fromM s side q a).Pairwise aheadM ∧ ∀ m ∈ fromM s side q a, m.1 = a := by
  unfold fromM
  split
  · constructor
    · rw [List.pairwise_map]
      have h : ((allN (cel s) a).filter (fun b => q (cel s b))).Pairwise (· < ·) := by
        unfold allN
        exact (List.pairwise_lt_range.filter _).filter _
      exact h.imp (fun h => .inr ⟨rfl, h⟩)
    · intro m hm
      obtain ⟨b, _, rfl⟩ := List.mem_map.1 hm
      rfl
  · exact ⟨List.Pairwise.nil, fun m hm => by simp at hm⟩
theorem gath_pair (s : ByteArray) (side : Int) (q : Nat → Bool) : ∀ n, (gathM s side q n).Pairwise aheadM ∧ ∀ m ∈ gathM s side q n, m.1 < n
  | 0 => ⟨by simp [gathM], fun m hm => by simp [gathM] at hm⟩
  | n + 1 => by
    obtain ⟨h1, h2⟩ := gath_pair s side q n
    obtain ⟨h3, h4⟩ := from_pair s side q n
    rw [gathM_succ]
    refine ⟨List.pairwise_append.2 ⟨h1, h3, fun x hx y hy => .inl (by rw [h4 y hy]; exact h2 x hx)⟩, fun m hm => ?_⟩
    rcases List.mem_append.1 hm with h | h
    · have := h2 m h; omega
    · rw [h4 m h]; omega
theorem gathP_pair (p : Pos) (q : Nat → Bool) : (gathP p q).Pairwise aheadM := by
  unfold gathP
  split
  · exact (gath_pair _ _ _ 90).1
  · exact List.Pairwise.nil
end Go.Proofs.Ytcanbidenhcohaa.K

/- Walks: the reference's Find. -/
namespace Go.Proofs.Ytcanbidenhcohaa.K
open Go.RowKit Go.Lib Go.Proofs.YtcanbidenhcohaaW.PrintWords Go.Proofs.Ytcanbidenhcohaa.Sp
set_option linter.unusedVariables false
set_option linter.unusedSimpArgs false
attribute [local go_sem] cel_get   -- for this text's walks alone
def flatI (l : List Nat) : List Value := l.map (fun (n : Nat) => Value.int .i64 (n : Int))
theorem flatI_append (l : List Nat) (x : Nat) : flatI (l ++ [x]) = flatI l ++ [.int .i64 (x : Int)] := by simp [flatI]
/-- A row of numbers of the call's own, from block B on. -/
def OwnI (W : World) (B : Nat) (v : Value) (l : List Nat) : Prop := W.ownsRow B 3 1 v l.length (flatI l)
theorem OwnI.below {W W' : World} {B : Nat} {v : Value} {l : List Nat} (h : OwnI W B v l) (hb : Below W.heap.size W W') : OwnI W' B v l := pw_own_below h hb
theorem OwnI.lower {W : World} {B B' : Nat} {v : Value} {l : List Nat} (h : OwnI W B v l) (hb : B' ≤ B) : OwnI W B' v l := by
  obtain ⟨h1, h2 | ⟨g, cap, cur, h2, h3, h4⟩⟩ := h
  · exact ⟨h1, .inl h2⟩
  · exact ⟨h1, .inr ⟨g, cap, cur, h2, Nat.le_trans hb h3, h4⟩⟩
/-- Its length stands in it. -/
theorem OwnI.form {W : World} {B : Nat} {v : Value} {l : List Nat} (h : OwnI W B v l) : ∃ A cap, v = .slice A l.length cap := by
  obtain ⟨h1, ⟨h2, h3⟩ | ⟨g, cap, cur, h2, h3, h4⟩⟩ := h
  · exact ⟨none, 0, by rw [h2, h3]⟩
  · exact ⟨_, _, h2⟩
theorem info_int : (Try.prog.info? 3).map (fun i => (i.zero, i.size, i.bytes)) = some (some (.int .i64 0), 1, 8) := by kernel_rfl
/-- The squares, of the first n, that hold x. -/
def findL (s : ByteArray) (x n : Nat) : List Nat := (List.range n).filter (fun i => cel s i == x)
theorem findL_succ (s : ByteArray) (x n : Nat) : findL s x (n + 1) = findL s x n ++ (if cel s n = x then [n] else []) := by
  unfold findL
  rw [List.range_succ, List.filter_append]
  congr 1
  split <;> simp_all
theorem findL_len (s : ByteArray) (x n : Nat) : (findL s x n).length = cntX s n x := by
  unfold findL cntX; rw [List.countP_eq_length_filter]
def findN (s : ByteArray) (x : Nat) : List Nat := if isBoard s = true then findL s x 90 else []
/-- What Find's loop keeps. -/
structure FindAt (w0 W : World) (v : Value) (l : List Nat) : Prop where
  own : OwnI W w0.heap.size v l
  bel : Below w0.heap.size w0 W
theorem FindAt.below {w0 W W' : World} {v : Value} {l : List Nat} (h : FindAt w0 W v l) (hb : Below W.heap.size W W') : FindAt w0 W' v l :=
  ⟨h.own.below hb, h.bel.trans (hb.mono h.bel.size)⟩
theorem FindAt.grown {w0 W W1 : World} {v v1 : Value} {l l1 : List Nat} (h : FindAt w0 W v l) (hg : W.grownBy W1 v.ownBlock) (ho : OwnI W1 w0.heap.size v1 l1) : FindAt w0 W1 v1 l1 :=
  ⟨ho, h.bel.grown hg h.bel.size (fun k hk => (h.own.lt k hk).1)⟩
set_option maxRecDepth 100000 in
set_option maxHeartbeats 4000000 in
theorem rfind_c (s : ByteArray) (hmx : s.size ≤ maxLen) (x : Nat) (hx : x < 256) (w : World) :
    Calls Try.prog 34 #[.string s, .int .u8 (x : Int)] w fun e w' => ∃ v, e = .returned v ∧ OwnI w' w.heap.size v (findN s x) ∧ Below w.heap.size w w' := by
  have HIS := Aside0.mk (fun W => ris_c s hmx W)
  clear hmx
  cases hs : isBoard s
  case false =>
    rw [show findN s x = [] by unfold findN; rw [hs]; rfl]
    rw [hs] at HIS
    clear hs
    go_enter Try.func34, Try.ntmps34
    go_wp2_with fail
    refine (HIS.out _).mono ?_
    rintro e w1 ⟨rfl, rfl⟩
    go_wp2_with fail
    go_ret
    exact ⟨_, rfl, own_nil _ _ _ _, Below.refl _ _⟩
  case true =>
  have HR := Aside0.mk (show findN s x = findL s x 90 by unfold findN; rw [hs]; rfl)
  have HSZ := Aside0.mk (board_size hs)
  rw [hs] at HIS
  clear hs
  obtain ⟨i0, hi0, hx0⟩ := Option.map_eq_some_iff.1 info_int
  simp only [Prod.mk.injEq] at hx0
  have HZ := Aside0.mk (⟨hi0, hx0⟩ : _ ∧ _)
  clear hx0 hi0
  have hsz : (s.size : Int) = 90 := by rw [HSZ.out]; rfl
  go_enter Try.func34, Try.ntmps34
  go_wp2_with fail
  refine (HIS.out _).mono ?_
  rintro e w1 ⟨rfl, rfl⟩
  go_wp2_with fail
  go_loopg [5, 6] 90 (fun gg s5 s6 wr => ∃ i : Nat, s6 = .int .i64 i ∧ i + gg = 90 ∧ Aside0 (FindAt w1 wr s5 (findL s x i)))
  case atStart => exact ⟨0, rfl, by omega, ⟨⟨own_nil _ _ _ _, Below.refl _ _⟩⟩⟩
  case round =>
    obtain ⟨i, rfl, hi, HG⟩ := hrel
    cases gk with
    | zero =>
      have hn : ¬ ((i : Int) < 90) := by omega
      have HI := Aside0.mk (show i = 90 by omega)
      clear hi
      go_wp2_with fail
      go_ret
      refine ⟨_, rfl, ?_, HG.out.bel⟩
      rw [HR.out, ← HI.out]
      exact HG.out.own
    | succ g =>
      have hn : ((i : Int) < 90) := by omega
      have HI := Aside0.mk (show i + 1 + g = 90 by omega)
      have HLN := Aside0.mk (show (findL s x i).length ≤ 90 by rw [findL_len]; have := cntX_le s i x; have := HI.out; omega)
      have hq : (((cel s i : Nat) : Int) == (x : Int)) = (cel s i == x) := by rw [Bool.eq_iff_iff, beq_iff_eq, beq_iff_eq]; omega
      clear hi
      cases hc : (cel s i == x)
      case false =>
        have HF := Aside0.mk (show findL s x (i + 1) = findL s x i by rw [findL_succ, if_neg (by simpa using hc), List.append_nil])
        rw [hc] at hq
        clear hc
        go_wp2_with fail
        go_roundg g
        case measure => omega
        case rel => exact ⟨i + 1, rfl, HI.out, ⟨by rw [HF.out]; exact HG.out⟩⟩
      case true =>
        have HF := Aside0.mk (show findL s x (i + 1) = findL s x i ++ [i] by rw [findL_succ, if_pos (by simpa using hc)])
        rw [hc] at hq
        clear hc
        generalize findL s x i = l at *
        go_wp2_with (first | (at_builtin; refine hold ?_))
        refine Hold.go ?_
        refine wpList_append_lies _ (by rfl) _ _ _ (by rfl) w1.heap.size 3 i0 _ 1 8 Try.underlying24 HZ.out.1 HZ.out.2.1 HZ.out.2.2.1 HZ.out.2.2.2 rfl (by omega) _ l.length (flatI l) (by rfl) (HG.out.own.below (below_alloc (Below.refl _ _) _)) ⟨wr.heap.size, 0, none⟩ 1 1 [.int .i64 (i : Int)] (by rfl) (by rfl) (World.news_of_block (cs := #[.int .i64 (i : Int)]) (t := 3) (fr := (0, 0)) (news_own _ _)) (by simp [Value.oneCell']) (by omega) (by have := HLN.out; unfold maxLen; omega) (by have := HLN.out; omega) (by have := HG.out.bel.size; simp; omega) _ rfl ?_
        intro gg cap1 w2 hown1 hgrow hat hlt1
        have HO1 := Aside0.mk hown1
        have HGR := Aside0.mk hgrow
        clear hown1 hgrow hat
        go_wp2_with fail
        go_roundg g
        case measure => omega
        case rel =>
          refine ⟨i + 1, rfl, HI.out, ⟨?_⟩⟩
          rw [HF.out]
          refine (HG.out.below (below_alloc (Below.refl _ _) _)).grown HGR.out ?_
          have ho := HO1.out
          unfold OwnI
          rw [flatI_append, List.length_append]
          exact ho
end Go.Proofs.Ytcanbidenhcohaa.K

/- PseudoRight: the walk. -/
namespace Go.Proofs.Ytcanbidenhcohaa.K
open Go.RowKit Go.Lib Go.Proofs.YtcanbidenhcohaaW.PrintWords Go.Proofs.Ytcanbidenhcohaa.Sp
set_option linter.unusedVariables false
set_option linter.unusedSimpArgs false
attribute [local go_sem] cel_get   -- for this text's walks alone
/-- A row of moves beside a position's box. -/
structure OneAt (w0 W : World) (p : Pos) (v1 : Value) (l : List Mv) : Prop where
  box : BoxP W w0.heap.size p
  m1 : MvAt W w0.heap.size v1 l
  bel : Below w0.heap.size w0 W
theorem OneAt.below {w0 W W' : World} {p : Pos} {v1 : Value} {l : List Mv} (h : OneAt w0 W p v1 l) (hb : Below W.heap.size W W') : OneAt w0 W' p v1 l :=
  ⟨h.box.below hb, h.m1.below hb, below_go h.bel hb⟩
/-- What Apply gives at a move of the position. -/
theorem apply_move {p : Pos} {a b : Nat} (hck : checkP p = 0) (ha : a < 90) (hb : b < 90) (hs : sideN (cel p.cells a) = p.side) (hf : fastN (cel p.cells) a b = true) :
    (kindN (cel p.cells b) = 75 → (applyP p ⟨a, b⟩).2.2 = 7) ∧ (kindN (cel p.cells b) ≠ 75 → (applyP p ⟨a, b⟩).2 = (if cel p.cells b = 46 then 0 else cel p.cells b, 0) ∧ checkP (applyP p ⟨a, b⟩).1 = 0 ∧ (findN (applyP p ⟨a, b⟩).1.cells 46).length = (findN p.cells 46).length + (if cel p.cells b = 46 then 0 else 1) ∧ (applyP p ⟨a, b⟩).1.cells.size = 90) := by
  have hg := good_move hck ha hb hs hf
  obtain ⟨_, h2, _⟩ := move_parts hck ha hb hs hf
  constructor
  · intro hk
    unfold applyP
    rw [if_neg (by simpa using hck), if_pos (by rw [hg, hk]; rfl)]
  · intro hk
    obtain ⟨hbd, hsd, c1, c2, f1, f2⟩ := argOk_yes (checkP_parts hck).1
    have e : applyP p ⟨a, b⟩ = (⟨movedB p.cells a b, 1 - p.side, if cel p.cells b = 46 then min (p.clock + 1) 120 else 0, if p.side = 1 then min (p.full + 1) 9999 else p.full⟩, if cel p.cells b = 46 then 0 else cel p.cells b, 0) := by
      unfold applyP
      rw [if_neg (by simpa using hck), if_neg (by rw [hg]; simpa using hk)]
      simp only
      rw [h2]
      rfl
    have hr := right_after hck ha hb hs hf hk (if cel p.cells b = 46 then min (p.clock + 1) 120 else 0) (if p.side = 1 then min (p.full + 1) 9999 else p.full) (by split <;> omega) (by split <;> omega)
    rw [e]
    refine ⟨rfl, hr.1, ?_, ?_⟩
    · unfold findN
      simp only
      rw [hr.2.1, hbd, if_pos rfl, if_pos rfl, findL_len, findL_len]
      exact hr.2.2
    · exact board_size hr.2.1
set_option maxRecDepth 100000 in
set_option maxHeartbeats 4000000 in
theorem rightLaw (w : World) (p : Pos) (hmx : p.cells.size ≤ maxLen) : Calls Try.prog 9 #[posV p] w fun e w' => e = .returned (.bool true) ∧ Below w.heap.size w w' := by
  have HLV := Aside0.mk (fun W => live_c W)
  have hu := Try.underlying38
  have hu2 := Try.underlying42
  by_cases h200 : p.cells.size > 200
  · have h1 : (200 : Int) < (p.cells.size : Int) := by omega
    have HW0 := Aside0.mk (below_new (Below.refl w.heap.size w) (.cells #[.string p.cells, .int .i64 p.side, .int .i64 p.clock, .int .i64 p.full] 38))
    clear h200 hmx
    go_enter Try.func9, Try.ntmps9
    go_wp2_with (go_at_call 30; refine (HLV.out _).mono ?_; rintro e w1 ⟨rfl, hb⟩; have HW1 := Aside0.mk (below_go HW0.out hb); clear hb)
    go_ret
    exact ⟨rfl, HW1.out⟩
  have h1 : (p.cells.size : Int) ≤ 200 := by omega
  clear h200 hmx
  have HM := Aside0.mk (fun W => moves_c p W)
  have HCK := Aside0.mk (fun W => check_c p W)
  have HLE := Aside0.mk (show checkP p ≠ 0 → gathP p (fun _ => true) = [] from fun h => by unfold gathP; rw [if_neg h])
  have HMEM := Aside0.mk (fun m (h : m ∈ gathP p (fun _ => true)) => gath_mem h)
  have HPRE := Aside0.mk (gathP_pair p (fun _ => true))
  have HLL := Aside0.mk (gath_len p (fun _ => true))
  generalize gathP p (fun _ => true) = l at *
  go_enter Try.func9, Try.ntmps9
  go_wp2_with fail
  have HB0 := Aside0.mk (BoxP.new w p)
  have HW0 := Aside0.mk (below_new (Below.refl w.heap.size w) (.cells #[.string p.cells, .int .i64 p.side, .int .i64 p.clock, .int .i64 p.full] 38))
  refine (HM.out _).mono ?_
  rintro e w1 ⟨v1, rfl, h1, hb⟩
  have HX := Aside0.mk (show OneAt w w1 p v1 l from ⟨HB0.out.below hb, h1.reads.lower HW0.out.size, below_go HW0.out hb⟩)
  clear h1 hb HB0 HW0
  obtain ⟨A1, cap1, rfl⟩ := HX.out.m1.form
  go_wp2_with fail
  go_loopg [4] l.length (fun gg s4 wr => ∃ i : Nat, s4 = .int .i64 i ∧ i + gg = l.length ∧ Aside0 (OneAt w wr p (.slice A1 l.length cap1) l))
  case atStart => exact ⟨0, rfl, by omega, HX⟩
  case round =>
    clear HX
    obtain ⟨i, rfl, hi, HX⟩ := hrel
    cases gk with
    | zero =>
      have hn : ¬ ((i : Int) < (l.length : Int)) := by omega
      obtain ⟨e0, e1, e2, e3⟩ := HX.out.box
      have HL0 := Aside0.mk (show checkP p ≠ 0 → (l.length : Int) = 0 from fun h => by rw [HLE.out h]; rfl)
      clear hi
      by_cases hck : checkP p = 0
      · rw [hck] at HCK
        clear hck HL0
        go_wp2_with (first | (go_at_call 35; refine (HCK.out _).mono ?_; rintro e w4 ⟨rfl, hb⟩; have HX2 := Aside0.mk (HX.out.below hb); clear hb) | (go_at_call 30; refine (HLV.out _).mono ?_; rintro e w5 ⟨rfl, hb⟩; have HW5 := Aside0.mk (below_go HX2.out.bel hb); clear hb))
        go_ret
        exact ⟨rfl, HW5.out⟩
      · have h0 := HL0.out hck
        have hne : (checkP p == 0) = false := by simpa using hck
        clear hck HL0 HLE
        generalize checkP p = ck at *
        go_wp2_with (first | (go_at_call 35; refine (HCK.out _).mono ?_; rintro e w4 ⟨rfl, hb⟩; have HX2 := Aside0.mk (HX.out.below hb); clear hb) | (go_at_call 30; refine (HLV.out _).mono ?_; rintro e w5 ⟨rfl, hb⟩; have HW5 := Aside0.mk (below_go HX2.out.bel hb); clear hb))
        go_ret
        exact ⟨rfl, HW5.out⟩
    | succ g =>
      have hn : (i : Int) < (l.length : Int) := by omega
      have hil : i < l.length := by omega
      have hib : (i : Int) ≤ 8100 := by have := HLL.out; omega
      have HI := Aside0.mk (show i + 1 + g = l.length by omega)
      obtain ⟨hc0, ha90, hb90, hsd, hf, _⟩ := HMEM.out _ (List.getElem_mem hil)
      obtain ⟨g1, cap1', hA1, _, hg1, hx1⟩ := HX.out.m1.at (fun h => by rw [h] at hil; simp at hil)
      simp only [Value.slice.injEq, true_and] at hA1
      obtain ⟨rfl, rfl⟩ := hA1
      have HXS := Aside0.mk hx1
      obtain ⟨x0, x1⟩ := hx1 i hil
      clear hx1 hi
      have hbd := (argOk_yes (checkP_parts hc0).1).1
      have hs90 := board_size hbd
      have hsz : ((p.cells.size : Int) != 90) = false := by rw [hs90]; rfl
      obtain ⟨HA1, HA2⟩ := apply_move hc0 ha90 hb90 hsd hf
      have HPV := Aside0.mk (fun j (h : j + 1 = i) => List.pairwise_iff_getElem.1 HPRE.out j i (by omega) hil (by omega))
      generalize hli : l[i] = m at *
      obtain ⟨ma, mb⟩ := m
      have HAPP := Aside0.mk (fun W => apply_c p ⟨ma, mb⟩ W)
      unfold ApplyIs at HAPP
      simp only at ha90 hb90 x0 x1 hsd hf HA1 HA2
      have hm1 : (mb : Int) < 90 := by omega
      have hm0 : (ma : Int) < 90 := by omega
      have hm2 : (mb : Int) < (p.cells.size : Int) := by omega
      have HAP := Aside0.mk (And.intro HA1 HA2)
      have HPC := Aside0.mk (And.intro hc0 (And.intro hsd hf))
      have HLT := Aside0.mk (board_cell hbd hb90)
      have HBD := Aside0.mk hbd
      have HS90 := Aside0.mk hs90
      clear HA1 HA2 hc0 hsd hf hbd hs90 ha90 hb90
      have HX1 := Aside0.mk (HX.out.below (below_alloc (Below.refl _ _) (.cells #[.int .i64 (ma : Int), .int .i64 (mb : Int)] 42)))
      have b0 : (wr.alloc (.cells #[.int .i64 (ma : Int), .int .i64 (mb : Int)] 42)).cell? ⟨wr.heap.size, 0, none⟩ = some (.int .i64 (ma : Int)) := by simp [World.cell?_alloc_at]
      have b1 : (wr.alloc (.cells #[.int .i64 (ma : Int), .int .i64 (mb : Int)] 42)).cell? ⟨wr.heap.size, 1, none⟩ = some (.int .i64 (mb : Int)) := by simp [World.cell?_alloc_at]
      have HY := Aside0.mk (fun (k : Nat) (h : k < l.length) => And.intro (below_cell (below_alloc (Below.refl wr.heap.size wr) (.cells #[.int .i64 (ma : Int), .int .i64 (mb : Int)] 42)) _ _ _ (HXS.out k h).1) (below_cell (below_alloc (Below.refl wr.heap.size wr) (.cells #[.int .i64 (ma : Int), .int .i64 (mb : Int)] 42)) _ _ _ (HXS.out k h).2))
      go_wp2_with fail
      clear x0 x1 HXS hg1
      generalize wr.alloc (.cells #[.int .i64 (ma : Int), .int .i64 (mb : Int)] 42) = W1 at *
      generalize wr.heap.size = bm at *
      rcases Nat.eq_zero_or_pos i with hi0 | hi0
      case' inl =>
        have hi1 : decide (0 < i) = false := decide_eq_false (by omega)
        clear HY HPV hi0
        go_quiet (fail)
        clear hi1
      case' inr =>
        obtain ⟨j, hj⟩ : ∃ j, j + 1 = i := ⟨i - 1, by omega⟩
        obtain ⟨y0, y1⟩ := HY.out j (by omega)
        have hpv := HPV.out j hj
        have hij : (i : Int) - 1 = (j : Int) := by omega
        have hi1 : decide (0 < i) = true := decide_eq_true hi0
        generalize hlj : l[j]'(by omega) = mj at *
        obtain ⟨na, nb⟩ := mj
        unfold aheadM at hpv
        simp only at y0 y1 hpv
        clear HY HPV
        have hj0 : (j : Int) ≤ 8100 := by omega
        have hj1 : (j : Int) < (l.length : Int) := by omega
        clear hlj hj hi0
        have z1 : decide (ma < na) = false := decide_eq_false (by omega)
        have h4 : ((na : Int) == (ma : Int)) = (na == ma) := by rw [Bool.eq_iff_iff, beq_iff_eq, beq_iff_eq]; omega
        cases h3 : (na == ma)
        case' true =>
          rw [h3] at h4
          have z2 : decide (mb ≤ nb) = false := decide_eq_false (by rw [beq_iff_eq] at h3; omega)
          go_quiet (fail)
        case' false =>
          rw [h3] at h4
          go_quiet (fail)
        all_goals clear y0 y1 hij hi1 z1 h4 h3 hj0 hj1 hpv
      all_goals
        have HX2 := Aside0.mk (HX1.out.below (pw_below_drewN (Below.refl _ _) nq))
        have b0' : (W1.drewN nq).cell? ⟨bm, 0, none⟩ = some (.int .i64 (ma : Int)) := b0
        have b1' : (W1.drewN nq).cell? ⟨bm, 1, none⟩ = some (.int .i64 (mb : Int)) := b1
        clear b0 b1 HX1 HX
        generalize W1.drewN nq = W2 at *
        obtain ⟨e0, e1, e2, e3⟩ := HX2.out.box
        go_wp2_with fail
        refine (HAPP.out _).mono ?_
        rintro e w3 ⟨rfl, hb⟩
        have HX3 := Aside0.mk (HX2.out.below hb)
        clear hb HX2 e0 e1 e2 e3 b0' b1' HAPP
        have HXX := Aside0.mk (cel_lt p.cells mb)
        have HKC := Aside0.mk (fun W => rkind_c (cel p.cells mb) (cel_lt p.cells mb) W)
        generalize applyP p ⟨ma, mb⟩ = r at *
        generalize cel p.cells mb = x at *
        obtain ⟨⟨q0, q1, q2, q3⟩, c, ee⟩ := r
        have HX4 := Aside0.mk (HX3.out.below (below_alloc (Below.refl _ _) (.cells #[.string q0, .int .i64 q1, .int .i64 q2, .int .i64 q3] 38)))
        have HBQ := Aside0.mk (BoxP.new w3 ⟨q0, q1, q2, q3⟩)
        cases hk : (kindN x == 75)
        case' true =>
          obtain rfl : ee = 7 := HAP.out.1 (by simpa using hk)
          have hkq : (((kindN x : Nat) : Int) == 75) = true := by rw [beq_iff_eq] at *; omega
          go_wp2_with (go_at_call 33; refine (HKC.out _).mono ?_; rintro e w4 ⟨rfl, rfl⟩)
          go_roundg g
          case measure => omega
          case rel => exact ⟨i + 1, by go_num, by have := HI.out; omega, HX4⟩
        case' false =>
          have hap := HAP.out.2 (by simpa using hk)
          simp only [Prod.mk.injEq] at hap
          obtain ⟨⟨hc, rfl⟩, hq0, hfl, hq90⟩ := hap
          have hkq : (((kindN x : Nat) : Int) == 75) = false := by rw [beq_eq_false_iff_ne] at *; omega
          have HFP := Aside0.mk (fun W => rfind_c p.cells (by rw [HS90.out]; unfold maxLen; omega) 46 (by omega) W)
          have HFQ := Aside0.mk (fun W => rfind_c q0 (by rw [hq90]; unfold maxLen; omega) 46 (by omega) W)
          have HCQ := Aside0.mk (fun W => check_c ⟨q0, q1, q2, q3⟩ W)
          rw [hq0] at HCQ
          have hnp : (findN p.cells 46).length ≤ 90 := by
            unfold findN
            rw [HBD.out, if_pos rfl, findL_len]
            exact cntX_le _ _ _
          generalize findN p.cells 46 = fp at *
          generalize findN q0 46 = fq at *
          generalize hnP : fp.length = nP at *
          generalize hnQ : fq.length = nQ at *
          have HNP := Aside0.mk hnP
          have HNQ := Aside0.mk hnQ
          have hnp2 : (nP : Int) ≤ 90 := by omega
          have HXE := Aside0.mk (show ((x : Int) == 46) = (x == 46) from beq46 x)
          clear hnP hnQ hq0 hq90 hnp
          cases hx46 : (x == 46)
          all_goals
            have hxq := HXE.out
            rw [hx46] at hxq
            have hne : x = 46 ↔ (x == 46) = true := by rw [beq_iff_eq]
            rw [hx46] at hne
          case' false =>
            have hx1 : ¬ x = 46 := by simpa using hne
            rw [if_neg hx1] at hc hfl
            have hx0 : x ≠ 0 := by
              have : ∀ y ∈ letters, y ≠ 0 := by decide
              exact this x HLT.out
            have u1 : ((c : Int) == 0) = false := by rw [beq_eq_false_iff_ne]; omega
            have u2 : ((c : Int) != 0) = true := by rw [bne_iff_ne]; omega
            have u3 : ((nQ : Int) != (nP : Int) + 1) = false := by rw [bne_eq_false_iff_eq]; omega
          case' true =>
            have hx1 : x = 46 := by simpa using hne
            rw [if_pos hx1] at hc hfl
            have u1 : ((c : Int) == 0) = true := by rw [beq_iff_eq]; omega
            have u2 : ((c : Int) != 0) = false := by rw [bne_eq_false_iff_eq]; omega
            have u3 : ((nQ : Int) != (nP : Int)) = false := by rw [bne_eq_false_iff_eq]; omega
          all_goals
            clear hc hfl hx1 hne hx46 hk
            obtain ⟨e0, e1, e2, e3⟩ := HX4.out.box
            have hwl : w.heap.size < w3.heap.size := World.block_lt_of_cell? _ _ HX3.out.box.c0
            have e0' := HX3.out.box.c0
            go_wp2_with (go_at_call 33; refine (HKC.out _).mono ?_; rintro e w4 ⟨rfl, rfl⟩)
            refine (HFP.out _).mono ?_
            rintro e w5 ⟨v5, rfl, h5, hb⟩
            have HX5 := Aside0.mk (HX4.out.below hb)
            have HBQ5 := Aside0.mk (HBQ.out.below hb)
            obtain ⟨A5, cap5, rfl⟩ := h5.form
            rw [HNP.out]
            clear e0 e0' e1 e2 e3 h5 hb
            obtain ⟨f0, f1, f2, f3⟩ := HBQ5.out
            go_wp2_with fail
            refine (HFQ.out _).mono ?_
            rintro e w6 ⟨v6, rfl, h6, hb⟩
            have HX6 := Aside0.mk (HX5.out.below hb)
            have HBQ6 := Aside0.mk (HBQ5.out.below hb)
            obtain ⟨A6, cap6, rfl⟩ := h6.form
            rw [HNQ.out]
            clear f0 f1 f2 f3 h6 hb
            obtain ⟨f0, f1, f2, f3⟩ := HBQ6.out
            go_wp2_with fail
            refine (HCQ.out _).mono ?_
            rintro e w7 ⟨rfl, hb⟩
            have HX7 := Aside0.mk (HX6.out.below hb)
            clear hb
            go_wp2_with fail
            go_roundg g
            case measure => omega
            case rel => exact ⟨i + 1, by go_num, by have := HI.out; omega, HX7⟩
end Go.Proofs.Ytcanbidenhcohaa.K

/- Flat types: what a value, and a slice's elements, of structs of numbers, bools and texts hold. No program in sight. -/
namespace Go.Proofs.Ytcanbidenhcohaa.P
open Go Go.ChangeShapes Go.WideShapes
/-- The kind of one cell. -/
inductive FK where
  | int (k : IntKind)
  | bool
  | str
def FK.has : FK → Value → Prop
  | .int k, c => ∃ n, c = .int k n ∧ (Lit.int k n).wf = true
  | .bool, c => ∃ b, c = .bool b
  | .str, c => ∃ s : ByteArray, c = .string s ∧ s.size ≤ maxLen
/-- The kinds of a struct's cells, given those of its fields. -/
def flatFs (P : Program) (g : TypeId → Option (List FK)) : List Field → Nat → Option (List FK)
  | [], _ => some []
  | f :: r, off => (g f.type).bind fun a => if f.offset = off ∧ P.cellsOf f.type = a.length then (flatFs P g r (off + a.length)).map (a ++ ·) else none
def flatT (P : Program) : Nat → TypeId → Option (List FK)
  | 0, _ => none
  | d + 1, t => match P.underlying t with
    | some .bool => some [.bool]
    | some (.int k) => some [.int k]
    | some .string => some [.str]
    | some (.struct fs) => (flatFs P (flatT P d) fs.toList 0).bind fun ks => if P.cellsOf t = ks.length then some ks else none
    | _ => none
section
variable {H : Type} {enc : TypeId × Value → H} {P : Program} {w : World} {base : Nat} {spare : Nat → Bool} {held : Bool}
theorem flatFs_cells {g : TypeId → Option (List FK)} {n : Nat} {cs : List Value}
    (ih : ∀ t ks, g t = some ks → ∀ cs x, DataW.trod enc P w base spare held n t cs = some x → cs.length = ks.length ∧ ∀ (i : Nat) (k : FK) (c : Value), ks[i]? = some k → cs[i]? = some c → k.has c) :
    ∀ (l : List Field) (off : Nat) (ks : List FK), flatFs P g l off = some ks → (∀ f ∈ l, ∃ y, DataW.trod enc P w base spare held n f.type ((cs.drop f.offset).take (P.cellsOf f.type)) = some y) →
      ∀ (i : Nat) (k : FK) (c : Value), ks[i]? = some k → cs[off + i]? = some c → k.has c
  | [], off, ks, h, _, i, k, c, hk, _ => by
    simp only [flatFs, Option.some.injEq] at h
    subst h
    simp at hk
  | f :: r, off, ks, h, hy, i, k, c, hk, hc => by
    simp only [flatFs, Option.bind_eq_some_iff] at h
    obtain ⟨a, ha, h⟩ := h
    split at h
    · rename_i hh
      obtain ⟨h1, h2⟩ := hh
      simp only [Option.map_eq_some_iff] at h
      obtain ⟨b, hb, rfl⟩ := h
      obtain ⟨y, hy0⟩ := hy f (by simp)
      obtain ⟨hl, hh⟩ := ih _ _ ha _ _ hy0
      by_cases hi : i < a.length
      · rw [List.getElem?_append_left hi] at hk
        refine hh i k c hk ?_
        rw [List.getElem?_take, List.getElem?_drop, h1, h2, if_pos hi]
        exact hc
      · rw [List.getElem?_append_right (by omega)] at hk
        refine flatFs_cells ih r (off + a.length) b hb (fun f hf => hy f (by simp [hf])) (i - a.length) k c hk ?_
        rw [show off + a.length + (i - a.length) = off + i by omega]
        exact hc
    · cases h
theorem flat_cells : ∀ (d : Nat) (t : TypeId) (ks : List FK), flatT P d t = some ks → ∀ (n : Nat) (cs : List Value) (x : DataW H × List MemPlace), DataW.trod enc P w base spare held n t cs = some x →
    cs.length = ks.length ∧ ∀ (i : Nat) (k : FK) (c : Value), ks[i]? = some k → cs[i]? = some c → k.has c
  | 0, _, _, h => by simp [flatT] at h
  | d + 1, t, ks, h => by
    intro n cs x hx
    unfold flatT at h
    split at h
    · rename_i ht
      obtain rfl := Option.some.inj h
      obtain ⟨b, rfl, rfl⟩ := DataW.trod_bool ht hx
      refine ⟨rfl, fun i k c hk hc => ?_⟩
      match i with
      | 0 => simp at hk hc; subst hk hc; exact ⟨b, rfl⟩
      | i + 1 => simp at hk
    · rename_i k ht
      obtain rfl := Option.some.inj h
      obtain ⟨m, rfl, rfl, hw⟩ := DataW.trod_int ht hx
      refine ⟨rfl, fun i k c hk hc => ?_⟩
      match i with
      | 0 => simp at hk hc; subst hk hc; exact ⟨m, rfl, hw⟩
      | i + 1 => simp at hk
    · rename_i ht
      obtain rfl := Option.some.inj h
      obtain ⟨s, rfl, rfl, hs⟩ := DataW.trod_string ht hx
      refine ⟨rfl, fun i k c hk hc => ?_⟩
      match i with
      | 0 => simp at hk hc; subst hk hc; exact ⟨s, rfl, hs⟩
      | i + 1 => simp at hk
    · rename_i fs ht
      simp only [Option.bind_eq_some_iff] at h
      obtain ⟨ks', hks, h⟩ := h
      split at h
      · rename_i hsz
        obtain rfl := Option.some.inj h
        obtain ⟨xs, m, rfl, rfl, hlen, hxl, hf⟩ := DataW.trod_struct ht hx
        refine ⟨hlen.trans hsz, ?_⟩
        have := flatFs_cells (enc := enc) (w := w) (base := base) (spare := spare) (held := held) (n := m) (cs := cs) (fun t ks hg => flat_cells d t ks hg m) fs.toList 0 ks' hks (by
          intro f hfm
          obtain ⟨i, hi⟩ := List.getElem?_of_mem hfm
          have hfi : fs[i]? = some f := by simpa using hi
          have h1 := hf i f hfi
          have hlt : i < xs.length := by
            rw [hxl]
            rcases Nat.lt_or_ge i fs.size with h | h
            · exact h
            · simp [Array.getElem?_eq_none h] at hfi
          exact ⟨xs[i], h1.trans (List.getElem?_eq_getElem hlt)⟩)
        intro i k c hk hc
        exact this i k c hk (by simpa using hc)
      · cases h
    · cases h
/-- A slice of flat elements: its cells. -/
theorem flat_slice {t e : TypeId} {d : Nat} {ks : List FK} {n : Nat} {a : Option Addr} {len cap : Nat} {x : DataW H × List MemPlace} (ht : P.underlying t = some (.slice e)) (he : flatT P d e = some ks) (hc : P.cellsOf e = ks.length)
    (h : DataW.trod enc P w base spare held n t [.slice a len cap] = some x) :
    (a = none ∧ len = 0 ∧ cap = 0) ∨ ∃ ad, a = some ad ∧ len ≤ cap ∧ cap ≤ maxLen ∧ ∀ i, i < len → ∀ (j : Nat) (k : FK), ks[j]? = some k → ∃ c, w.cell? (ad.add (i * ks.length + j)) = some c ∧ k.has c := by
  rcases Deep.open_slice ht h with ⟨h0, _⟩ | ⟨ad, len', cap', m, n', D, Pl, h0, hb, hl, hm, hmm, _, hx⟩
  · simp at h0; exact .inl h0
  · simp only [List.cons.injEq, Value.slice.injEq, and_true] at h0
    obtain ⟨rfl, rfl, rfl⟩ := h0
    refine .inr ⟨ad, rfl, hl, hm, fun i hi j k hj => ?_⟩
    have hlm : len ≤ m := by rw [hmm]; split <;> omega
    obtain ⟨cs, h1, h2⟩ := hx i (by omega)
    obtain ⟨_, hlen, hcell⟩ := World.cells?_some h1
    obtain ⟨hcl, hch⟩ := flat_cells d e ks he _ _ _ h2
    have hjk : j < ks.length := by
      rcases Nat.lt_or_ge j ks.length with h | h
      · exact h
      · simp [List.getElem?_eq_none h] at hj
    have hjc : j < cs.length := by omega
    have := hcell j (by omega)
    rw [Deep.add_add, hc, List.getElem?_eq_getElem hjc] at this
    exact ⟨_, this, hch j k _ hj (List.getElem?_eq_getElem hjc)⟩
end
theorem list_cons {α : Type} {l : List α} {n : Nat} (h : l.length = n + 1) : ∃ x r, l = x :: r ∧ r.length = n := by
  cases l with
  | nil => simp at h
  | cons x r => exact ⟨x, r, rfl, by simpa using h⟩
theorem list_nil {α : Type} {l : List α} (h : l.length = 0) : l = [] := List.length_eq_zero_iff.1 h
theorem wf_u64 {n : Int} (h : (Lit.int .u64 n).wf = true) : 0 ≤ n := by
  simp only [Lit.wf, Bool.and_eq_true, decide_eq_true_eq] at h
  have h1 := h.1
  simp [IntKind.min, IntKind.signed] at h1
  exact h1
theorem wf_i64 {n : Int} (h : (Lit.int .i64 n).wf = true) : -9223372036854775808 ≤ n ∧ n ≤ 9223372036854775807 := by
  simp only [Lit.wf, Bool.and_eq_true, decide_eq_true_eq] at h
  obtain ⟨h1, h2⟩ := h
  simp [IntKind.min, IntKind.max, IntKind.signed, IntKind.bits] at h1 h2
  exact ⟨h1, h2⟩
theorem wf_u8 {n : Int} (h : (Lit.int .u8 n).wf = true) : 0 ≤ n ∧ n ≤ 255 := by
  simp only [Lit.wf, Bool.and_eq_true, decide_eq_true_eq] at h
  obtain ⟨h1, h2⟩ := h
  simp [IntKind.min, IntKind.max, IntKind.signed, IntKind.bits] at h1 h2
  exact ⟨h1, h2⟩
end Go.Proofs.Ytcanbidenhcohaa.P
